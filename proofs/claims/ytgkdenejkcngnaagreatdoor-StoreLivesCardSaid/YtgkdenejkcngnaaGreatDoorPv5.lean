import Derived.Maps.OwnOps
import Derived.Defers
import Derived.Recover
import Derived.WalkLawsBesides
import Derived.Maps.OwnSet
import Derived.Lib.ItoaNum
import Derived.Lib.AtoiAll
import Derived.Test.YtgkdenejkcngnaaGreatDoorPv4
set_option maxRecDepth 100000
set_option maxHeartbeats 8000000
namespace Go.Proofs.YtgkdenejkcngnaaGreatDoor
open Go.RowKit
open Value renaming int→Vi
open IntKind renaming i64→Vk
open Go.Proofs.Tryz
variable {a:Act}{K:Act→World→Prop}{d d':Af}{listed:Array Bool}{af:Array Edge}{ops:Array Oper}{x:Bl}{D:DataW Value}{Q:Exit→Act→World→Prop}{fn:Func}{h:Hd}{bad from_ num:Int}{E bs:List (List UInt8)}{L:List Aq}{fs fs':List Bl}{ps:List I3}{zs:List Int}{ms:List Mk}{us vs:List Nat}{rest:List Oper}{b body l n raw t:List UInt8}{cs:List Value}{B N base c f first g i j k m more most p r segEv size stride u:Nat}{A A' S:Nat→Prop}{o:Oper}{P:Program}{q:Tmp}{bv mv rv sv v v' v1:Value}{W W' X w w' w0 w1 w2:World}
theorem closing_ne {l:List UInt8} {g:Sg} {r:List Mk×Nat} (h:Cn l g=some r):r.1≠ []:=by
 unfold Cn at h;split at h
 ·cases h
 ·split at h
  ·cases h
  ·rename_i c hc;unfold closeIn at h;split at h
   ·cases h
   ·rename_i hn;split at h
    ·have hcl:1≤c.count∧1≤c.stride:=by
      unfold Fb at hc;split at hc
      ·cases hc
      ·unfold clsIn at hc;split at hc
       ·split at hc
        ·cases hc
        ·split at hc
         ·rename_i hx _;have:=φ hc;subst this;simp only;omega
         ·cases hc
       ·cases hc
     have e:=φ h;subst e;simp only;intro e2;have h3: ¬ c.marks.length≠(c.count+c.stride - 1) / c.stride:=fun h=>hn (.inr (.inr h));rw [e2] at h3;simp only [Φ,ne_eq,Decidable.not_not] at h3;have:=Nat.div_pos (show c.stride≤c.count+c.stride - 1 by omega) (by omega:0<c.stride);omega
    ·cases h
def sealIn (x:Bl) (g:Sg):Bool:=match Cn (x.data.drop g.foot.toNat) g with
 |none=>false
 |some r=>match r.1 with
  | []=>false
  |k::_=>k.p==((D4 (x.data.take (min x.data.length 64)) g).1:Int)
def Ep (d:Af) (g:Sg):Bool×Nat:=
 match Kk d (Ad g.num) with
 |none=>(false,0)
 |some x=>if (x.data.length:Int)≤g.foot then (false,0)
  else if (D4 (x.data.take (min x.data.length 64)) g).2=false then (false,min x.data.length 64)
  else (sealIn x g,min x.data.length 64+(x.data.length - g.foot.toNat))
theorem sealed_any (w:World) (f m:Nat) (d:Af) (L:List Aq) (h:Bv w f m d L) (hn:Bh w) (g:Sg) (hft:0≤g.foot):
  Calls prog 88 #[.pointer (some ⟨f,0,none⟩),sgV g] w fun e w'=>e= .returned (.bool (Ep d g).1)∧Bv w' f m (Df d (Ep d g).2) L∧Ab (fun i=>i=f) w w':=by
 have HB0:=Qh (Aa w (.cells (B4 g) 72));have HG0:=Qs (Ft (w.alloc (.cells (B4 g) 72)) w.heap.size g) (σ w _);have HF0:=Qh (h.below HB0.out);have HN0:=Qh (hn.below HB0.out)
 have HA:=Qh (show Ep d g=match Kk d (Ad g.num) with
  |none=>(false,0)
  |some x=>if (x.data.length:Int)≤g.foot then (false,0)
   else if (D4 (x.data.take (min x.data.length 64)) g).2=false then (false,min x.data.length 64)
   else (sealIn x g,min x.data.length 64+(x.data.length - g.foot.toNat)) from rfl)
 have hfl:=h.hd.lt;have g0:=HG0.out.c0;have HSZ0:=Qs ((w.alloc (.cells (B4 g) 72)).heap.size=w.heap.size+1) (by simp);simp only [B4] at HB0 HG0 HF0 HN0 g0 HSZ0;obtain⟨nm,hnm⟩: ∃ nm,nm=Ad g.num:=⟨_,rfl⟩;have HSN:=Qh (fun W=>Jm g.num W);rw [←hnm] at HSN HA;obtain⟨F,hF⟩:=Int.eq_ofNat_of_zero_le hft;have HFF:=Qh hF;clear h hn hnm hft hF;go_enter func88,ntmps88;go_wp2_with fail;refine(HSN.out _).mono ?_;rintro e w1 ⟨rfl,hb1⟩;have HB1:=Qh (Below.next HB0.out hb1);have HF1:=Qh (HF0.out.below hb1);have HN1:=Qh (HN0.out.below hb1);have HG1:=Qs (Ft w1 w.heap.size g) ((hb1.block _ (δ.1 HG0.out).1).trans HG0.out);have HS1:=Qs (w.heap.size+1≤w1.heap.size) (by have:=hb1.size;rw [HSZ0.out] at this;exact this);have HSI:=Qh (Ol w1 f m d L HF1.out nm);have g3:w1.cell? ⟨w.heap.size,3,none⟩=some (Vi Vk (F:Int)):=by have:=HG1.out.range 3 _ rfl;rw [HFF.out] at this;simpa using this
 clear hb1 HB0 HF0 HN0 HG0 HSN g0 HSZ0;by_cases he:Av d nm=0
 ·obtain⟨x,hx,hfx⟩:=filD_some he;rw [sizeO he hx] at HSI;have HLX:=Qh (fil_len HF1.out hx);obtain⟨q,hq⟩: ∃ q,q=min x.data.length 64:=⟨_,rfl⟩;have HQ:=Qh hq;have hmin:min (x.data.length:Int) 64=(q:Int):=by omega
  have HRD:=Qh (show Calls prog 32 #[.pointer (some ⟨f,0,none⟩),.string ⟨nm.toArray⟩,Vi Vk 0,Vi Vk (q:Int)] w1 fun e w'=> ∃ v,e= .returned (.tuple #[v,Vi Vk 0])∧Cw w' w1.heap.size v (x.data.take q)∧Bv w' f m (Df d q) L∧Ab (fun i=>i=f) w1 w' by
   have:=Ld w1 f m d L HF1.out nm x he hx 0 q (by omega);rw [List.drop_zero] at this;exact this)
  have HA2:=Qh (show Ep d g=if (x.data.length:Int)≤g.foot then (false,0)
   else if (D4 (x.data.take q) g).2=false then (false,q)
   else (sealIn x g,q+(x.data.length - F)) by rw [HA.out,hfx];simp only [←hq,HFF.out,Int.toNat_natCast])
  have HR2:=Qh (fun W (hF:Bv W f m (Df d q) L) (hle:F≤x.data.length)=>(show Calls prog 32 #[.pointer (some ⟨f,0,none⟩),.string ⟨nm.toArray⟩,Vi Vk (F:Int),Vi Vk ((x.data.length - F:Nat):Int)] W fun e w'=> ∃ v,e= .returned (.tuple #[v,Vi Vk 0])∧Cw w' W.heap.size v (x.data.drop F)∧Bv w' f m (Df d (q+(x.data.length - F))) L∧Ab (fun i=>i=f) W w' by
   have:=Ld W f m (Df d q) L hF nm x he hx F (x.data.length - F) (by omega);rw [List.take_of_length_le (by rw [Λ];omega),rdD_rdD] at this;exact this))
  obtain⟨hb,hhb⟩: ∃ hb,hb=x.data.take q:=⟨_,rfl⟩;obtain⟨fb,hfb⟩: ∃ fb,fb=x.data.drop F:=⟨_,rfl⟩;have HBL:=Qs (hb.length≤67108864) (by have:=HLX.out;rw [hhb,ω];omega);have HFL:=Qs (fb.length≤67108864) (by have:=HLX.out;rw [hfb,Λ];omega)
  have HSL0:=Qh (show sealIn x g=match Cn fb g with
   |none=>false
   |some r=>match r.1 with
    | []=>false
    |k::_=>k.p==((D4 hb g).1:Int) by unfold sealIn;simp only [hhb,hfb,HQ.out,HFF.out,Int.toNat_natCast])
  rw [←hhb] at HRD HA2;rw [←hfb] at HR2;clear HA he hx hfx hq hhb hfb;rcases hle:decide (x.data.length≤F) with _|_
  ·have hgt:F<x.data.length:=by simpa using hle
   obtain⟨r,hr⟩: ∃ r,r=x.data.length - F:=⟨_,rfl⟩;have HR:=Qh hr;rw [←hr] at HR2 HA2;have hwr:IntKind.i64.wrap ((x.data.length:Int) - (F:Int))=(r:Int):=by have:=HLX.out;rw [ν];omega
   have HA3:=Qs (Ep d g=if (D4 hb g).2=false then (false,q) else (sealIn x g,q+r)) (by rw [HA2.out,γ (by rw [HFF.out];show ¬ (x.data.length:Int)≤(F:Int);omega)]);clear hr;go_wp2_with fail;refine HSI.out.mono ?_;rintro e w1' ⟨rfl,rfl⟩;go_wp2_with fail;refine HRD.out.mono ?_;rintro e w2 ⟨v2,rfl,ho2,hf2,ht2⟩;have HNE:=fs_nib HF1.out HN1.out;have HN2:=Qh (HN1.out.turned ht2 HNE HN1.out.lt);have HT2:=Qh (show Ab (fun i=>i=f) w w2 from(Ab.below HB1.out).trans ht2 fun i hi=> .inl hi);have HG2:=Qs (Ft w2 w.heap.size g) ((ht2.block _ (by have:=HS1.out;omega) (by omega)).trans HG1.out);have HF2:=Qh hf2;have HBG:=Qh (begins_any hb v2 g w2 ho2.brow (by have:=HBL.out;omega) HN2.out);obtain⟨o2,cap2,hsh,_,_⟩:=Aj ho2;subst hsh;clear hf2 ho2 ht2 HRD HSI HF1 HG1 HN1 g3;go_wp2_with (with_reducible refine Bc rfl (.tmp 3) rfl w.heap.size 0 g rfl HG2.out.range ?_);refine HBG.out.mono ?_;rintro e w3 ⟨rfl,hb3⟩;have HF3:=Qh (HF2.out.below hb3);have HN3:=Qh (HN2.out.below hb3);have HT3:=Qh (show Ab (fun i=>i=f) w w3 from HT2.out.trans (Ab.below hb3) fun i hi=> .inl hi);have HG3:=Qs (Ft w3 w.heap.size g) ((hb3.block _ (δ.1 HG2.out).1).trans HG2.out);have HS3:=Qs (w.heap.size+1≤w3.heap.size) ((δ.1 HG3.out).1);have g3:w3.cell? ⟨w.heap.size,3,none⟩=some (Vi Vk (F:Int)):=by have:=HG3.out.range 3 _ rfl;rw [HFF.out] at this;simpa using this
   clear hb3 HBG HF2 HN2 HT2 HG2;rcases hbg:(D4 hb g).2 with _|_
   ·have HE:=Qs (Ep d g=(false,q)) (by rw [HA3.out,κ hbg]);go_wp2;go_ret;exact⟨by rw [HE.out];rfl,by rw [HE.out];exact HF3.out,HT3.out⟩
   ·have HE:=Qs (Ep d g=(sealIn x g,q+r)) (by rw [HA3.out,γ (by rw [hbg];decide)]);have HSL:=HSL0;have HRR:=Qh (HR2.out w3 HF3.out (Nat.le_of_lt hgt));obtain⟨n0,hn0⟩: ∃ n0,n0=(D4 hb g).1:=⟨_,rfl⟩;rw [←hn0] at HSL;rw [←hn0];clear hn0;go_wp2_with fail;refine HRR.out.mono ?_;rintro e w4 ⟨v4,rfl,ho4,hf4,ht4⟩;have HN4:=Qh (HN3.out.turned ht4 HNE HN3.out.lt);have HT4:=Qh (show Ab (fun i=>i=f) w w4 from HT3.out.trans ht4 fun i hi=> .inl hi);have HG4:=Qs (Ft w4 w.heap.size g) ((ht4.block _ (by have:=HS3.out;omega) (by omega)).trans HG3.out);have HF4:=Qh hf4;have HCL:=Qh (closing_any fb v4 g w4 ho4.brow (by have:=HFL.out;omega) HN4.out);have HNE2:=Qh (fun r=> @closing_ne fb g r);obtain⟨o4,cap4,hs4,_,_⟩:=Aj ho4;subst hs4;obtain⟨cv,hcv⟩: ∃ cv,cv=Cn fb g:=⟨_,rfl⟩;rw [←hcv] at HCL HSL HNE2;clear hf4 ho4 ht4 HRR HF3 HG3 HN3 g3 hcv HSL0;go_wp2_with (with_reducible refine Bc rfl (.tmp 3) rfl w.heap.size 0 g rfl HG4.out.range ?_);refine HCL.out.mono ?_;rintro e w5 ⟨hb5,hpost⟩;have HF5:=Qh (HF4.out.below hb5);have HT5:=Qh (show Ab (fun i=>i=f) w w5 from HT4.out.trans (Ab.below hb5) fun i hi=> .inl hi);rcases cv with _|⟨ms,st⟩
    ·simp only at hpost;subst hpost;go_wp2;go_ret;exact⟨by rw [HE.out,HSL.out];rfl,by rw [HE.out];exact HF5.out,HT5.out⟩
    ·obtain⟨mv,rfl,hmo⟩:=hpost;have hne:=HNE2.out _ rfl;dsimp only at hmo hne;obtain⟨k,rs,rfl⟩:=List.exists_cons_of_ne_nil hne;obtain⟨_,mcap,hsh,_,_,hrow⟩:=hmo.row;subst hsh;obtain⟨b,off,rfl,hcell⟩:=hrow 0 k rfl;have cp:w5.cell? ⟨b,off+1,none⟩=some (Vi Vk k.p):=by have:=hcell 1 _ rfl;simpa using this
     have q0:(0:Int)<((k::rs).length:Int):=by simp<;>omega
     clear hrow hcell hmo hne hb5;go_wp2;go_ret;exact⟨by rw [HE.out,HSL.out];rfl,by rw [HE.out];exact HF5.out,HT5.out⟩
  ·have HE:=Qs (Ep d g=(false,0)) (by rw [HA2.out,κ (by rw [HFF.out];simp at hle;show (x.data.length:Int)≤(F:Int);omega)]);go_wp2_with fail;refine HSI.out.mono ?_;rintro e w1' ⟨rfl,rfl⟩;go_wp2;go_ret;exact⟨by rw [HE.out];rfl,by rw [HE.out,Lc HF1.out.ok];exact HF1.out,Ab.below HB1.out⟩
 ·rw [sizeE he] at HSI;have HE:=Qs (Ep d g=(false,0)) (by rw [HA.out,filD_none he]);have t1:(Av d nm != 0)=true:=by simpa using he
  generalize Av d nm=e0 at*;clear he HA;go_wp2_with fail;refine HSI.out.mono ?_;rintro e w1' ⟨rfl,rfl⟩;go_wp2;go_ret;exact⟨by rw [HE.out];rfl,by rw [HE.out,Lc HF1.out.ok];exact HF1.out,Ab.below HB1.out⟩
def d8 (n:Int) (k:Nat):UInt8:=UInt8.ofNat (dgt n 6 k).toNat
theorem six_eq (n:Int):six n=[d8 n 5,d8 n 4,d8 n 3,d8 n 2,d8 n 1,d8 n 0]:=rfl
theorem d8_nat (n:Int) (k:Nat) (hk:k<6):((d8 n k).toNat:Int)=48+n / 10^k % 10:=by
 have h:=dgt_bd n 6 k;have e:dgt n 6 k=48+n / 10^k % 10:=by rw [dgt,κ hk]
 rw [d8,←e];simp;omega
theorem d8s (n:Int):((d8 n 0).toNat:Int)=48+n % 10∧((d8 n 1).toNat:Int)=48+n / 10 % 10∧((d8 n 2).toNat:Int)=48+n / 100 % 10∧
  ((d8 n 3).toNat:Int)=48+n / 1000 % 10∧((d8 n 4).toNat:Int)=48+n / 10000 % 10∧((d8 n 5).toNat:Int)=48+n / 100000 % 10:=
 ⟨by simpa using d8_nat n 0 (by decide),by simpa using d8_nat n 1 (by decide),by simpa using d8_nat n 2 (by decide),by simpa using d8_nat n 3 (by decide),by simpa using d8_nat n 4 (by decide),by simpa using d8_nat n 5 (by decide)⟩
theorem O3 (n:Int) (h0:0≤n) (h1:n≤999999):Ka (six n)=n:=by
 obtain⟨a0,a1,a2,a3,a4,a5⟩:=d8s n;rw [six_eq];simp only [Ka,List.foldl_cons,List.foldl_nil];omega
theorem six_digits (n:Int):(six n).all No=true:=by
 obtain⟨a0,a1,a2,a3,a4,a5⟩:=d8s n;rw [six_eq];simp only [List.all_cons,List.all_nil,Bool.and_true,Bool.and_eq_true,Od];omega
theorem six_inj (n m:Int) (h0:0≤n) (h1:n≤999999) (h2:0≤m) (h3:m≤999999) (h:six n=six m):n=m:=by
 rw [←O3 n h0 h1,←O3 m h2 h3,h]
theorem six_of_decOf (t:List UInt8) (hl:t.length=6) (hd:t.all No=true):six (Ka t)=t:=by
 match t,hl with
 | [a,b,c,d,e,f],_=>
  simp only [List.all_cons,List.all_nil,Bool.and_true,Bool.and_eq_true,Od] at hd;obtain⟨a0,a1,a2,a3,a4,a5⟩:=d8s (Ka [a,b,c,d,e,f]);rw [six_eq];have hv:Ka [a,b,c,d,e,f]=100000*((a.toNat:Int) - 48)+10000*((b.toNat:Int) - 48)+1000*((c.toNat:Int) - 48)+100*((d.toNat:Int) - 48)+10*((e.toNat:Int) - 48)+((f.toNat:Int) - 48):=by
   simp only [Ka,List.foldl_cons,List.foldl_nil];omega
  generalize Ka [a,b,c,d,e,f]=n at*;have u: ∀ x y:UInt8,(x.toNat:Int)=y.toNat→x=y:=fun x y h=>UInt8.toNat_inj.1 (by omega);rw [u (d8 n 5) a (by omega),u (d8 n 4) b (by omega),u (d8 n 3) c (by omega),u (d8 n 2) d (by omega),u (d8 n 1) e (by omega),u (d8 n 0) f (by omega)]
theorem numOf_six (n:Int) (h0:0≤n) (h1:n≤999999):Hj (six n)=n:=by
 rw [Hj,κ ⟨rfl,six_digits n⟩,O3 n h0 h1]
theorem Gc (p t:List UInt8):Lib.hasPrefix (p++t) p=true∧Lib.trimPrefix (p++t) p=t:=by
 have h:Lib.hasPrefix (p++t) p=true:=by simp [Lib.hasPrefix,List.isPrefixOf_iff_prefix]
 exact⟨h,by simp [Lib.trimPrefix,h]⟩
theorem pre_split (l p:List UInt8) (h:Lib.hasPrefix l p=true):l=p++Lib.trimPrefix l p:=by
 have h':p <+: l:=by simpa [Lib.hasPrefix,List.isPrefixOf_iff_prefix] using h
 obtain⟨t,rfl⟩:=h';rw [(Gc p t).2]
theorem numOf_bd (t:List UInt8):0≤Hj t∧Hj t≤999999∧(Hj t≠0→t=six (Hj t)):=by
 unfold Hj;split
 ·rename_i h;have hb:=decOf_bd t h.2;rw [h.1] at hb;exact⟨hb.1,by omega,fun _=>(six_of_decOf t h.1 h.2).symm⟩
 ·exact⟨by omega,by omega,fun h=>absurd rfl h⟩
theorem parseOf_cases (l:List UInt8):(l=Aw∧Bg l=(1,0))∨(l=Ky∧Bg l=(2,0))∨
  (∃ n,1≤n∧n≤999999∧l=Eh++six n∧Bg l=(3,n))∨(∃ n,1≤n∧n≤999999∧l=Dc++six n∧Bg l=(4,n))∨
  (l≠Aw∧l≠Ky∧(∀ n,1≤n→n≤999999→l≠Eh++six n)∧(∀ n,1≤n→n≤999999→l≠Dc++six n)∧Bg l=(0,0)):=by
 by_cases h1:l=Aw
 ·exact .inl ⟨h1,by rw [Bg,κ h1]⟩
 by_cases h2:l=Ky
 ·exact .inr (.inl ⟨h2,by rw [Bg,γ h1,κ h2]⟩)
 by_cases h3:Lib.hasPrefix l Eh=true
 ·have e:Bg l=Jd 3 (Hj (Lib.trimPrefix l Eh)):=by rw [Bg,γ h1,γ h2,κ h3]
  have hs:=pre_split l Eh h3;obtain⟨b0,b1,b2⟩:=numOf_bd (Lib.trimPrefix l Eh);by_cases h0:Hj (Lib.trimPrefix l Eh)=0
  ·refine .inr (.inr (.inr (.inr ⟨h1,h2,?_,?_,by rw [e,Jd,κ h0]⟩)))
   ·intro n hn1 hn2 hl;rw [hl,(Gc Eh (six n)).2,numOf_six n (by omega) hn2] at h0;omega
   ·intro n _ _ hl;rw [hl] at h3;revert h3;simp [Lib.hasPrefix,Eh,Dc]
  ·exact .inr (.inr (.inl ⟨_,by omega,b1,by rw [←b2 h0];exact hs,by rw [e,Jd,γ h0]⟩))
 by_cases h4:Lib.hasPrefix l Dc=true
 ·have e:Bg l=Jd 4 (Hj (Lib.trimPrefix l Dc)):=by rw [Bg,γ h1,γ h2,γ h3,κ h4]
  have hs:=pre_split l Dc h4;obtain⟨b0,b1,b2⟩:=numOf_bd (Lib.trimPrefix l Dc);by_cases h0:Hj (Lib.trimPrefix l Dc)=0
  ·refine .inr (.inr (.inr (.inr ⟨h1,h2,?_,?_,by rw [e,Jd,κ h0]⟩)))
   ·intro n _ _ hl;rw [hl] at h3;exact h3 (Gc Eh (six n)).1
   ·intro n hn1 hn2 hl;rw [hl,(Gc Dc (six n)).2,numOf_six n (by omega) hn2] at h0;omega
  ·exact .inr (.inr (.inr (.inl ⟨_,by omega,b1,by rw [←b2 h0];exact hs,by rw [e,Jd,γ h0]⟩)))
 ·refine .inr (.inr (.inr (.inr ⟨h1,h2,?_,?_,by rw [Bg,γ h1,γ h2,γ h3,γ h4]⟩)))
  ·intro n _ _ hl;rw [hl] at h3;exact h3 (Gc Eh (six n)).1
  ·intro n _ _ hl;rw [hl] at h4;exact h4 (Gc Dc (six n)).1
theorem M5 (n:Int) (h:1≤n∧n≤999999):Ad n=Eh++six n:=by rw [Ad,κ h,Eh]
theorem bookName_eq (n:Int) (h:1≤n∧n≤999999):Cs n=Dc++six n:=by rw [Cs,κ h,Dc]
theorem six_ok (n:Int):(six n).all okCh=true:=by
 rw [List.all_eq_true];intro c hc;have:=(Od c).1 (List.all_eq_true.1 (six_digits n) c hc);simp only [okCh,Bool.or_eq_true,Bool.and_eq_true,decide_eq_true_eq];omega
theorem rightName_seg (n:Int):Ao (Eh++six n)=true:=by
 simp only [Ao,List.all_append,six_ok];simp [Eh,six];decide
theorem rightName_book (n:Int):Ao (Dc++six n)=true:=by
 simp only [Ao,List.all_append,six_ok];simp [Dc,six];decide
theorem parse_right (l:List UInt8) (h:(Bg l).1≠0):Ao l=true:=by
 rcases parseOf_cases l with⟨rfl,_⟩|⟨rfl,_⟩|⟨n,h1,h2,rfl,_⟩|⟨n,h1,h2,rfl,_⟩|⟨_,_,_,_,e⟩
 ·decide
 ·decide
 ·exact rightName_seg n
 ·exact rightName_book n
 ·rw [e] at h;exact absurd rfl h
theorem names_not (n:Int) (h: ¬ (1≤n∧n≤999999)):Ad n=[]∧Cs n=[]:=⟨by rw [Ad,γ h],by rw [Cs,γ h]⟩
theorem parse_seg (n:Int) (h:1≤n∧n≤999999):Bg (Ad n)=(3,n):=by
 rw [M5 n h,Bg,γ (by simp [Eh,Aw]),γ (by simp [Eh,Ky]),κ (Gc _ _).1,(Gc _ _).2,numOf_six n (by omega) h.2,Jd,γ (by omega)]
theorem parse_book (n:Int) (h:1≤n∧n≤999999):Bg (Cs n)=(4,n):=by
 rw [bookName_eq n h,Bg,γ (by simp [Dc,Aw]),γ (by simp [Dc,Ky]),γ (by simp [Dc,Eh,Lib.hasPrefix]),κ (Gc _ _).1,(Gc _ _).2,numOf_six n (by omega) h.2,Jd,γ (by omega)]
theorem seg_same (n m:Int) (h:1≤n∧n≤999999):(Ad m==Ad n)=(m==n):=by
 rw [Bool.eq_iff_iff,beq_iff_eq,beq_iff_eq];constructor
 ·intro e;by_cases hm:1≤m∧m≤999999
  ·rw [M5 n h,M5 m hm] at e;exact six_inj m n (by omega) hm.2 (by omega) h.2 (List.append_cancel_left e)
  ·rw [(names_not m hm).1,M5 n h] at e;simp [Eh] at e
 ·rintro rfl;rfl
theorem seg_book (n m:Int) (h:1≤n∧n≤999999):(Ad m==Cs n)=false:=by
 rw [bookName_eq n h];by_cases hm:1≤m∧m≤999999
 ·rw [M5 m hm];simp [Eh,Dc]
 ·rw [(names_not m hm).1];simp [Dc]
section
open Go.RowKit Go.Maps
def Jg (m:Da) (n:Int):Bool:=m.segs.any fun g=>g.num==n
def A5 (there:Bool) (m:Da) (l:List UInt8):Bool:=
 if (Bg l).1=3 then !(there&&Jg m (Bg l).2) else if (Bg l).1=4 then !(there&&(m.snap==(Bg l).2)) else (Bg l).1==2
def straysD (d:Af) (there:Bool) (m:Da):List (List UInt8):=(d.files.map (·.name)).filter (A5 there m)
def CntAt (D:DataW Unit) (ks:List Int):Prop:= ∀ n:Int,∃ c:Int,D.atKey (.int .i64 n) (.lit (.int .i64 0))= .lit (.int .i64 c)∧0≤c∧c≤ks.length∧(0<c↔n∈ks)
theorem cnt_nil:CntAt (.map []) []:=fun n=>⟨0,rfl,by decide,by decide,by simp⟩
theorem cnt_put {D:DataW Unit} {ks:List Int} {k c:Int} (h:CntAt D ks) (hD:IsMap D) (hc:D.atKey (.int .i64 k) (.lit (.int .i64 0))= .lit (.int .i64 c)) (hk:(Lit.int .i64 k).wf=true):CntAt (D.put (.int .i64 k) (.lit (.int .i64 (c+1)))) (ks++[k]):=fun n=>by
 obtain⟨c0,h0,h1,h2,h3⟩:=h k
 rw [hc] at h0
 have e:c=c0:=by simpa using h0
 subst e
 by_cases hn:n=k
 ·subst hn
  exact⟨c+1,atKey_put_same hD (by trivial) _ _,by omega,by simp;omega,by simp;omega⟩
 ·obtain⟨c',g0,g1,g2,g3⟩:=h n
  refine⟨c',by rw [atKey_put_other (by intro e;injection e with _ e;exact hn e)];exact g0,g1,by simp;omega,?_⟩
  rw [g3]
  simp [hn]
theorem parse_bd (l:List UInt8):(Lit.int .i64 (Bg l).2).wf=true:=by
 have h:0≤(Bg l).2∧(Bg l).2≤999999:=by
  unfold Bg Jd;have h1:=numOf_bd (Lib.trimPrefix l Eh);have h2:=numOf_bd (Lib.trimPrefix l Dc)
  repeat' split
  all_goals simp only
  all_goals omega
 exact WalkArith.wf_i64 (by omega)
theorem seg_mem {m:Da} {n:Int} (h:Jg m n=true):n∈m.segs.map (·.num):=by
 unfold Jg at h;obtain⟨g,hg,e⟩:=List.any_eq_true.1 h;exact List.mem_map.2 ⟨g,hg,by simpa using e⟩
theorem seg_not {m:Da} {n:Int} (h:Jg m n=false):n∉m.segs.map (·.num):=fun hm=>by
 obtain⟨g,hg,e⟩:=List.mem_map.1 hm
 unfold Jg at h
 have:=(List.any_eq_true (p:=fun g:Sg=>g.num==n)).2 ⟨g,hg,by simpa using e⟩
 rw [h] at this
 cases this
theorem Of {k:TypeId} {R:Value→Option (DataW Unit×List MemPlace)} {b n:Nat} {D:DataW Unit} (h:w.ownsMap P k R b n D) (hb:Below w.heap.size w w'):w'.ownsMap P k R b n D:=by
 obtain⟨es,clock,hbb,r⟩:=h;exact⟨es,clock,(hb.block b (δ.1 hbb).1).trans hbb,r⟩
theorem Oj {B' n:Nat} {e:TypeId}  {xs:List Value} (h:w.ownsRow B e size v n xs) (hB:B'≤B):w.ownsRow B' e size v n xs:=by
 refine⟨h.1,?_⟩;rcases h.2 with hn|⟨g,cap,cur,e,hb1,rest⟩
 ·exact .inl hn
 ·exact .inr ⟨g,cap,cur,e,η hB hb1,rest⟩
theorem Gz (hgd:o.guard=none) (s y:Operand) (ho:o.op= .call {callee:= .builtin .append,args:= #[s,y],argTypes:= #[73,73]})  {l:List (List UInt8)} {x:List UInt8} 
  (hs:a.eval s=v) (hN:N=w.heap.size) (hy:a.eval y= .slice (some ⟨N,0,none⟩) 1 1) (hown:w.ownsRow B 9 1 v l.length (l.map encStr)) (hB:B≤w.heap.size) (hl:l.length≤100000)
  (h: ∀ v' w',w'.ownsRow B 9 1 v' (l++[x]).length ((l++[x]).map encStr)→Below B w w'→w.heap.size≤w'.heap.size→wpList prog ops Q rest (a.put o.dst v') w'):wpList prog ops Q (o::rest) a (w.alloc (.cells #[.string ⟨x.toArray⟩] 9)):=by
 subst hN;obtain⟨i0,hi,hz0,hz1,hz2⟩:=info_parts (show (prog.info? 9).map (fun i=>(i.zero,i.size,i.bytes))=some (some (.string ⟨#[]⟩),1,16) by kernel_rfl);have hb:=Aa w (.cells #[.string ⟨x.toArray⟩] 9);refine wpList_append_own _ hgd s y 73 ho B 9 i0 (.string ⟨#[]⟩) 1 16 underlying73 hi hz0 hz1 hz2 rfl (by decide) v l.length (l.map encStr) hs (A2 hown hb) ⟨w.heap.size,0,none⟩ 1 1 [encStr x] hy rfl (fun j u hj=> ?_) (fun u hu=> ?_) (by unfold maxLen;omega) (by omega) (η hB hb.size) ?_
 ·rw [Cr,Nat.zero_add,World.cell?_alloc_new];simpa [encStr] using hj
 ·simp at hu;rcases hu with rfl;rfl
 ·intro v' w' hown' hg _;refine h v' w' ?_ ((hb.mono hB).trans (Cm (A2 hown hb) (η hB hb.size) hg)) (η hb.size hg.size);rw [ζ,List.map_append];exact hown'
theorem list_any (w:World) (f m:Nat) (d:Af) (L:List Aq) (h:Bv w f m d L) (hdn:d.down=false):Calls prog 82 #[.pointer (some ⟨f,0,none⟩)] w fun e w'=> ∃ v,e= .returned v∧w'.ownsRow w.heap.size 9 1 v L.length ((Cu L).map encStr)∧Below w.heap.size w w':=by
 have HLL:=Qs (L.length≤1000000) (by have:=h.ok.count;rw [←h.fil] at this;simp [Js] at this;omega);have HN:=Qh (fsNames_any w f m d L h HLL.out);have c6:w.cell? ⟨f,6,none⟩=some (.bool false):=by rw [h.hd.c6];show some (Value.bool d.down)=_;rw [hdn]
 clear h hdn;go_enter func82,ntmps82;go_wp2_with fail;refine HN.out.mono ?_;rintro e w1 ⟨v1,rfl,hrow,hb1⟩;go_wp2;go_ret;exact⟨_,rfl,hrow,hb1⟩
theorem strays_not (w:World) (f m:Nat) (d:Af) (L:List Aq) (h:Bv w f m d L) (hdn:d.down=false) (mn:Da) (sv:Value):
  Calls prog 90 #[.pointer (some ⟨f,0,none⟩),.bool false,mnV mn sv] w fun e w'=> ∃ v,e= .returned v∧w'.ownsRow w.heap.size 9 1 v (straysD d false mn).length ((straysD d false mn).map encStr)∧Below w.heap.size w w':=by
 have HB0:=Qh (Below.next (Aa w (.cells (B3 mn sv) 69)) (Aa _ (.map #[] 0)));have hmk: ∀ W:World,(Instr.makeMap 215 none).run prog W= .ok (.map (some W.heap.size)) (W.alloc (.map #[] 0)):=fun _=>rfl;have HL:=Qh (list_any _ f m d L (h.below HB0.out) hdn);have HLL:=Qs (L.length≤700) (by have:=h.ok.count;rw [←h.fil] at this;simpa [Js] using this);have HFL:=Qs (Cu L=d.files.map (·.name)) (by rw [←h.fil];simp [Cu,Js]);have HM0:=Qh (World.ownsMap_made (H:=Unit) (w.alloc (.cells (B3 mn sv) 69)) prog 3 (plainElem prog 3));rw [show (w.alloc (.cells (B3 mn sv) 69)).heap.size=w.heap.size+1 by simp] at HM0;have HC0:=Qh ((Ca w mn sv).below (Aa _ (.map #[] 0)));simp only [B3] at HB0 HL HM0 HC0;clear h hdn;go_enter func90,ntmps90;go_wp2_with fail;refine HL.out.mono ?_;rintro e w2 ⟨v2,rfl,hrow,hb2⟩;have HNR:=Qh hrow;obtain⟨on,capn,hsh,_,_⟩:=Aj hrow;subst hsh;have HB2:=Qh (Below.next HB0.out hb2);obtain⟨D,hD⟩: ∃ D:DataW Unit,D= .map []:=⟨_,rfl⟩;have HMP:=Qh (Of HM0.out hb2);have HCN:=Qh cnt_nil;rw [←hD] at HMP HCN;have CSN:=Qh ((HC0.out.below hb2).c3);clear hb2 hrow HL HB0 HM0 HC0 hD;go_wp2;go_loopw [10,33] (fun ov iv wr=> ∃ (k:Nat) (out:List (List UInt8)),k≤L.length∧iv= Vi Vk (k:Int)∧Hid (out=((Cu L).take k).filter (A5 false mn))∧Hid (out.length≤k)∧Hid (wr.ownsRow w2.heap.size 9 1 ov out.length (out.map encStr))∧Hid (Below w2.heap.size w2 wr)) (fun _ iv _=>L.length - (intOf iv).toNat)
 case atStart=>exact⟨0,[],θ _,rfl,Qh rfl,Qh (μ _),Qh (World.ownsRow_nil _ _ _ _),Qh (χ _ _)⟩
 case round=>
  obtain⟨k,out,hk,rfl,HOU,HOL,HO,HB⟩:=hrel;by_cases hlt:k<L.length
  ·have q1:(k:Int)<(L.length:Int):=by omega
   obtain⟨x,hx,htk,_⟩:=Pj (Cu L) k (by simpa [Cu] using hlt);have HFS:=Qs (((Cu L).take (k+1)).filter (A5 false mn)=((Cu L).take k).filter (A5 false mn)++(if A5 false mn x then [x] else [])) (by rw [htk,List.filter_append];rcases hs:A5 false mn x<;>simp [hs]);obtain⟨gn,ncap,hsn,_,_,_,_,hcn⟩:=Dr HNR.out (by omega);simp only [Value.slice.injEq,true_and] at hsn;obtain⟨rfl,rfl⟩:=hsn;have cx:wr.cell? ⟨gn,k,none⟩=some (.string ⟨x.toArray⟩):=cell_later HB.out (hcn k _ (by rw [List.getElem?_map,hx];rfl));have hk1:IntKind.i64.wrap ((k:Int)+1)=(k:Int)+1:=by have:=HLL.out;rw [ν];omega
   have HPA:=Qh (fun W=>Parse_any x W);have HBD:=Qh (parse_bd x);have HST:=Qs (A5 false mn x=if (Bg x).1=3 then !(false&&Jg mn (Bg x).2) else if (Bg x).1=4 then !(false&&(mn.snap==(Bg x).2)) else (Bg x).1==2) rfl;obtain⟨r,hr⟩: ∃ r,r=Bg x:=⟨_,rfl⟩;rw [←hr] at HPA HBD HST;clear hr hcn hx htk;obtain⟨kd,n⟩:=r;go_wp2_with fail;refine(HPA.out wr).mono ?_;rintro e w4 ⟨rfl,hb4⟩;have HB4:=Qh (HB.out.trans (hb4.mono HB.out.size));have HO4:=Qh (A2 HO.out hb4);have hs4:=HB4.out.size;have HM4:=Qh (Of HMP.out (HB4.out));have cs:w4.cell? ⟨w.heap.size,3,none⟩=some (Vi Vk mn.snap):=cell_later HB4.out CSN.out;have HOL2:=Qs (out.length≤100000) (by have:=HOL.out;have:=HLL.out;omega);clear hb4 HO HB cx;rcases h3:(kd==3) with _|_
   ·rcases h4:(kd==4) with _|_
    ·rcases h2:(kd==2) with _|_
     ·have HSX:=Qs (A5 false mn x=false) (by rw [HST.out,γ (by simpa using h3),γ (by simpa using h4)];exact h2);go_wp2;go_roundw
      case rel=>exact⟨k+1,out,by omega,by go_num,Qh (by rw [HFS.out,HSX.out,HOU.out];simp),Qh (by have:=HOL.out;omega),HO4,HB4⟩
      case measure=>simp [intOf];omega
     ·have HSX:=Qs (A5 false mn x=true) (by rw [HST.out,γ (by simpa using h3),γ (by simpa using h4)];exact h2);go_wp2_with (with_reducible refine Gz (x:=x) rfl (.tmp 60) (.tmp 62) rfl rfl rfl rfl HO4.out hs4 HOL2.out ?_);intro v5 w5 ho5 hb5 _;have HO5:=Qh ho5;have HB5:=Qh (HB4.out.trans hb5);clear ho5 hb5 HO4;go_wp2;go_roundw
      case rel=>exact⟨k+1,out++[x],by omega,by go_num,Qh (by rw [HFS.out,HSX.out,HOU.out];simp),Qh (by have:=HOL.out;simp;omega),Qh (by simpa using HO5.out),HB5⟩
      case measure=>simp [intOf];omega
    ·have HSX:=Qs (A5 false mn x=true) (by rw [HST.out,γ (by simpa using h3),κ (by simpa using h4)];rfl);go_wp2_with (with_reducible refine Gz (x:=x) rfl (.tmp 60) (.tmp 62) rfl rfl rfl rfl HO4.out hs4 HOL2.out ?_);intro v5 w5 ho5 hb5 _;have HO5:=Qh ho5;have HB5:=Qh (HB4.out.trans hb5);clear ho5 hb5 HO4;go_wp2;go_roundw
     case rel=>exact⟨k+1,out++[x],by omega,by go_num,Qh (by rw [HFS.out,HSX.out,HOU.out];simp),Qh (by have:=HOL.out;simp;omega),Qh (by simpa using HO5.out),HB5⟩
     case measure=>simp [intOf];omega
   ·rcases hsg:Jg mn n with _|_
    ·have HSX:=Qs (A5 false mn x=true) (by rw [HST.out,κ (by simpa using h3)];simp [hsg]);go_wp2_with (first|(at_lookup;refine wpList_lookup_own_int _ rfl _ _ 215 rfl 3 3 .i64 (int_keyed underlying3) underlying215 underlying3 (by kernel_rfl) (w.heap.size+1) _ D rfl HM4.out _ _ rfl (keyOf_int_mk underlying3 HBD.out) ?_));intro c hat _;have hc:decide (0<c)=false:=by
      obtain⟨c',h1,h2,h3,h4⟩:=HCN.out n;rw [hat] at h1;have e:c=c':=by simpa using h1
      subst e;rw [decide_eq_false_iff_not,h4];simp
     clear hat;go_wp2_with (with_reducible refine Gz (x:=x) rfl (.tmp 60) (.tmp 62) rfl rfl rfl rfl HO4.out hs4 HOL2.out ?_);intro v5 w5 ho5 hb5 _;have HO5:=Qh ho5;have HB5:=Qh (HB4.out.trans hb5);clear ho5 hb5 HO4;go_wp2;go_roundw
     case rel=>exact⟨k+1,out++[x],by omega,by go_num,Qh (by rw [HFS.out,HSX.out,HOU.out];simp),Qh (by have:=HOL.out;simp;omega),Qh (by simpa using HO5.out),HB5⟩
     case measure=>simp [intOf];omega
    ·have HSX:=Qs (A5 false mn x=true) (by rw [HST.out,κ (by simpa using h3)];rfl);go_wp2_with (first|(at_lookup;refine wpList_lookup_own_int _ rfl _ _ 215 rfl 3 3 .i64 (int_keyed underlying3) underlying215 underlying3 (by kernel_rfl) (w.heap.size+1) _ D rfl HM4.out _ _ rfl (keyOf_int_mk underlying3 HBD.out) ?_));intro c hat _;have hc:decide (0<c)=false:=by
      obtain⟨c',h1,h2,h3,h4⟩:=HCN.out n;rw [hat] at h1;have e:c=c':=by simpa using h1
      subst e;rw [decide_eq_false_iff_not,h4];simp
     clear hat;go_wp2_with (with_reducible refine Gz (x:=x) rfl (.tmp 60) (.tmp 62) rfl rfl rfl rfl HO4.out hs4 HOL2.out ?_);intro v5 w5 ho5 hb5 _;have HO5:=Qh ho5;have HB5:=Qh (HB4.out.trans hb5);clear ho5 hb5 HO4;go_wp2;go_roundw
     case rel=>exact⟨k+1,out++[x],by omega,by go_num,Qh (by rw [HFS.out,HSX.out,HOU.out];simp),Qh (by have:=HOL.out;simp;omega),Qh (by simpa using HO5.out),HB5⟩
     case measure=>simp [intOf];omega
  ·obtain rfl:k=L.length:=by omega
   have HFI:=Qs (straysD d false mn=out) (by rw [HOU.out,List.take_of_length_le (by simp [Cu])];unfold straysD;rw [←HFL.out]);go_wp2;refine π (v:=_) (results_tmp rfl _ _ _) rfl ⟨_,rfl,?_,Below.next HB2.out HB.out⟩;rw [HFI.out];exact Oj HO.out HB2.out.size
theorem strays_there (w:World) (f m:Nat) (d:Af) (L:List Aq) (h:Bv w f m d L) (hdn:d.down=false) (mn:Da) (sv:Value) (hr:Oa w sv mn.segs) (hb: ∀ g∈mn.segs,0≤g.num∧g.num≤1099511627776) (hl:mn.segs.length≤100000):
  Calls prog 90 #[.pointer (some ⟨f,0,none⟩),.bool true,mnV mn sv] w fun e w'=> ∃ v,e= .returned v∧w'.ownsRow w.heap.size 9 1 v (straysD d true mn).length ((straysD d true mn).map encStr)∧Below w.heap.size w w':=by
 have HB0:=Qh (Below.next (Aa w (.cells (B3 mn sv) 69)) (Aa _ (.map #[] 0)));have hmk: ∀ W:World,(Instr.makeMap 215 none).run prog W= .ok (.map (some W.heap.size)) (W.alloc (.map #[] 0)):=fun _=>rfl;have HL:=Qh (fun W (hb:Below w.heap.size w W)=>list_any W f m d L (h.below hb) hdn);have HLL:=Qs (L.length≤700) (by have:=h.ok.count;rw [←h.fil] at this;simpa [Js] using this);have HFL:=Qs (Cu L=d.files.map (·.name)) (by rw [←h.fil];simp [Cu,Js]);have HM0:=Qh (World.ownsMap_made (H:=Unit) (w.alloc (.cells (B3 mn sv) 69)) prog 3 (plainElem prog 3));rw [show (w.alloc (.cells (B3 mn sv) 69)).heap.size=w.heap.size+1 by simp] at HM0;have HC0:=Qh ((Ca w mn sv).below (Aa _ (.map #[] 0)));have HSZ0:=Qs (((w.alloc (.cells (B3 mn sv) 69)).alloc (.map #[] 0)).heap.size=w.heap.size+2) (by simp);have HSR:=Qh (fun W (hb:Below w.heap.size w W)=>hr.below hb);have HSB:=Qh hb;obtain⟨os,scap,hsh,_,_,hcs⟩:=hr;have HCS:=Qh hcs;subst hsh;have c5:=HC0.out.c5;simp only [B3] at HB0 HM0 HC0 HSZ0 c5;clear h hdn hb hcs;go_enter func90,ntmps90;go_wp2_with fail;generalize (w.alloc (.cells #[Vi Vk mn.gen,Vi Vk mn.next,Vi Vk mn.floor,Vi Vk mn.snap,Vi Vk mn.snapSeq,.slice os mn.segs.length scap] 69)).alloc (.map #[] 0)=W0 at*;clear c5;go_loopw [20] (fun iv wr=> ∃ (k:Nat) (D:DataW Unit),k≤mn.segs.length∧iv= Vi Vk (k:Int)∧Hid (wr.ownsMap prog 3 (plainElem prog 3) (w.heap.size+1) k D)∧Hid (CntAt D ((mn.segs.take k).map (·.num)))∧Hid (Below (w.heap.size+1) W0 wr)) (fun iv _=>mn.segs.length - (intOf iv).toNat)
 case atStart=>exact⟨0,.map [],θ _,rfl,HM0,Qh (by rw [List.take_zero];exact cnt_nil),Qh (χ _ _)⟩
 case round=>
  obtain⟨k,D,hk,rfl,HMP,HCN,HB⟩:=hrel;have HBW:=Qh (HB0.out.trans (HB.out.mono (Nat.le_succ _)));by_cases hlt:k<mn.segs.length
  ·obtain⟨g,hg,htk,hgm⟩:=Pj mn.segs k hlt;obtain⟨b,off,rfl,hcell⟩:=HCS.out k g hg;have q1:(k:Int)<(mn.segs.length:Int):=by omega
   have HCE:=Qh (Bs hcell HBW.out);have HTK:=Qs ((mn.segs.take (k+1)).map (·.num)=(mn.segs.take k).map (·.num)++[g.num]) (by rw [htk];simp);have hgb:=HSB.out g hgm;have hwf:(Lit.int .i64 g.num).wf=true:=WalkArith.wf_i64 (by omega);have HBA:=Qh (Aa wr (.cells (B4 g) 72));have HGB:=Qs (Ft (wr.alloc (.cells (B4 g) 72)) wr.heap.size g) (σ wr _);have HMA:=Qh (Of HMP.out HBA.out);have HS1:=Qs (w.heap.size+2≤wr.heap.size) (by have:=HB.out.size;have:=HSZ0.out;omega);have g0:=HGB.out.c0;have hk1:IntKind.i64.wrap ((k:Int)+1)=(k:Int)+1:=by rw [ν];omega
   simp only [B4] at HBA HGB HMA g0;clear hg htk hgm hcell hgb;go_wp2_with (first|(with_reducible refine Bc rfl (.tmp 22) rfl b (off+k*4) g rfl HCE.out ?_)|(at_lookup;refine wpList_lookup_own_int _ rfl _ _ 215 rfl 3 3 .i64 (int_keyed underlying3) underlying215 underlying3 (by kernel_rfl) (w.heap.size+1) _ D rfl HMA.out _ _ rfl (keyOf_int_mk underlying3 hwf) ?_));intro c hat _;obtain⟨c',h1,h2,h3,_⟩:=HCN.out g.num;have e:c=c':=by rw [hat] at h1;simpa using h1
   subst e;have hcl:c≤100000:=by rw [List.length_map,ω] at h3;omega
   have hwc:IntKind.i64.wrap (c+1)=c+1:=by rw [ν];omega
   have hwfc:(Lit.int .i64 (c+1)).wf=true:=WalkArith.wf_i64 (by omega);have HCP:=Qh (cnt_put HCN.out HMA.out.isMap hat hwf);clear h1 h2 h3 hat;go_wp2_with (first|(at_mapUpdate;refine wpList_mapUpdate_own _ rfl _ _ _ 215 rfl 3 3 (int_keyed underlying3) underlying215 _ (w.heap.size+1) k D rfl HMA.out (by unfold maxLen;omega) _ _ _ rfl rfl (keyOf_int_mk underlying3 hwf) _ [] (plainElem_int underlying3 hwfc) ?_));intro w5 hown5 hg5;have HM5:=Qh hown5;have HB5:=Qs (Below (w.heap.size+1) W0 w5) ((HB.out.trans (HBA.out.mono (by have:=HS1.out;omega))).grown hg5 (by have:=HS1.out;have:=HBA.out.size;omega) (fun j hj=>by cases hj;exact μ _));clear hown5 hg5;go_wp2;go_roundw
   case rel=>exact⟨k+1,_,by omega,by go_num,HM5,Qh (by rw [HTK.out];exact HCP.out),HB5⟩
   case measure=>simp [intOf];omega
  ·obtain rfl:k=mn.segs.length:=by omega
   rw [List.take_length] at HCN;have HLC:=Qh (HL.out wr HBW.out);have HC1:=Qs (At wr w.heap.size mn (.slice os mn.segs.length scap)) (HC0.out.keep HB.out (Nat.lt_succ_self _));go_wp2_with fail;refine HLC.out.mono ?_;rintro e w2 ⟨v2,rfl,hrow,hb2⟩;have HNR:=Qh hrow;obtain⟨on,capn,hsh,_,_⟩:=Aj hrow;subst hsh;have HB2:=Qh (Below.next HBW.out hb2);have HMP:=Qh (Of HMP.out hb2);have CSN:=Qh ((HC1.out.below hb2).c3);clear hb2 hrow HL HB0 HM0 HC0 HC1 HLC;go_wp2;go_loopw [10,33] (fun ov iv wr=> ∃ (k:Nat) (out:List (List UInt8)),k≤L.length∧iv= Vi Vk (k:Int)∧Hid (out=((Cu L).take k).filter (A5 true mn))∧Hid (out.length≤k)∧Hid (wr.ownsRow w2.heap.size 9 1 ov out.length (out.map encStr))∧Hid (Below w2.heap.size w2 wr)) (fun _ iv _=>L.length - (intOf iv).toNat)
   case atStart=>exact⟨0,[],θ _,rfl,Qh rfl,Qh (μ _),Qh (World.ownsRow_nil _ _ _ _),Qh (χ _ _)⟩
   case round=>
    obtain⟨k,out,hk,rfl,HOU,HOL,HO,HB⟩:=hrel;by_cases hlt:k<L.length
    ·have q1:(k:Int)<(L.length:Int):=by omega
     obtain⟨x,hx,htk,_⟩:=Pj (Cu L) k (by simpa [Cu] using hlt);have HFS:=Qs (((Cu L).take (k+1)).filter (A5 true mn)=((Cu L).take k).filter (A5 true mn)++(if A5 true mn x then [x] else [])) (by rw [htk,List.filter_append];rcases hs:A5 true mn x<;>simp [hs]);obtain⟨gn,ncap,hsn,_,_,_,_,hcn⟩:=Dr HNR.out (by omega);simp only [Value.slice.injEq,true_and] at hsn;obtain⟨rfl,rfl⟩:=hsn;have cx:wr.cell? ⟨gn,k,none⟩=some (.string ⟨x.toArray⟩):=cell_later HB.out (hcn k _ (by rw [List.getElem?_map,hx];rfl));have hk1:IntKind.i64.wrap ((k:Int)+1)=(k:Int)+1:=by have:=HLL.out;rw [ν];omega
     have HPA:=Qh (fun W=>Parse_any x W);have HBD:=Qh (parse_bd x);have HST:=Qs (A5 true mn x=if (Bg x).1=3 then !(true&&Jg mn (Bg x).2) else if (Bg x).1=4 then !(true&&(mn.snap==(Bg x).2)) else (Bg x).1==2) rfl;obtain⟨r,hr⟩: ∃ r,r=Bg x:=⟨_,rfl⟩;rw [←hr] at HPA HBD HST;clear hr hcn hx htk;obtain⟨kd,n⟩:=r;go_wp2_with fail;refine(HPA.out wr).mono ?_;rintro e w4 ⟨rfl,hb4⟩;have HB4:=Qh (HB.out.trans (hb4.mono HB.out.size));have HO4:=Qh (A2 HO.out hb4);have hs4:=HB4.out.size;have HM4:=Qh (Of HMP.out (HB4.out));have cs:w4.cell? ⟨w.heap.size,3,none⟩=some (Vi Vk mn.snap):=cell_later HB4.out CSN.out;have HOL2:=Qs (out.length≤100000) (by have:=HOL.out;have:=HLL.out;omega);clear hb4 HO HB cx;rcases h3:(kd==3) with _|_
     ·rcases h4:(kd==4) with _|_
      ·rcases h2:(kd==2) with _|_
       ·have HSX:=Qs (A5 true mn x=false) (by rw [HST.out,γ (by simpa using h3),γ (by simpa using h4)];exact h2);go_wp2;go_roundw
        case rel=>exact⟨k+1,out,by omega,by go_num,Qh (by rw [HFS.out,HSX.out,HOU.out];simp),Qh (by have:=HOL.out;omega),HO4,HB4⟩
        case measure=>simp [intOf];omega
       ·have HSX:=Qs (A5 true mn x=true) (by rw [HST.out,γ (by simpa using h3),γ (by simpa using h4)];exact h2);go_wp2_with (with_reducible refine Gz (x:=x) rfl (.tmp 60) (.tmp 62) rfl rfl rfl rfl HO4.out hs4 HOL2.out ?_);intro v5 w5 ho5 hb5 _;have HO5:=Qh ho5;have HB5:=Qh (HB4.out.trans hb5);clear ho5 hb5 HO4;go_wp2;go_roundw
        case rel=>exact⟨k+1,out++[x],by omega,by go_num,Qh (by rw [HFS.out,HSX.out,HOU.out];simp),Qh (by have:=HOL.out;simp;omega),Qh (by simpa using HO5.out),HB5⟩
        case measure=>simp [intOf];omega
      ·rcases hsn:(mn.snap==n) with _|_
       ·have HSX:=Qs (A5 true mn x=true) (by rw [HST.out,γ (by simpa using h3),κ (by simpa using h4)];simp [hsn]);go_wp2_with (with_reducible refine Gz (x:=x) rfl (.tmp 60) (.tmp 62) rfl rfl rfl rfl HO4.out hs4 HOL2.out ?_);intro v5 w5 ho5 hb5 _;have HO5:=Qh ho5;have HB5:=Qh (HB4.out.trans hb5);clear ho5 hb5 HO4;go_wp2;go_roundw
        case rel=>exact⟨k+1,out++[x],by omega,by go_num,Qh (by rw [HFS.out,HSX.out,HOU.out];simp),Qh (by have:=HOL.out;simp;omega),Qh (by simpa using HO5.out),HB5⟩
        case measure=>simp [intOf];omega
       ·have HSX:=Qs (A5 true mn x=false) (by rw [HST.out,γ (by simpa using h3),κ (by simpa using h4)];simp [hsn]);go_wp2;go_roundw
        case rel=>exact⟨k+1,out,by omega,by go_num,Qh (by rw [HFS.out,HSX.out,HOU.out];simp),Qh (by have:=HOL.out;omega),HO4,HB4⟩
        case measure=>simp [intOf];omega
     ·rcases hsg:Jg mn n with _|_
      ·have HSX:=Qs (A5 true mn x=true) (by rw [HST.out,κ (by simpa using h3)];simp [hsg]);go_wp2_with (first|(at_lookup;refine wpList_lookup_own_int _ rfl _ _ 215 rfl 3 3 .i64 (int_keyed underlying3) underlying215 underlying3 (by kernel_rfl) (w.heap.size+1) _ D rfl HM4.out _ _ rfl (keyOf_int_mk underlying3 HBD.out) ?_));intro c hat _;have hc:decide (0<c)=false:=by
        obtain⟨c',h1,h2,h3,h4⟩:=HCN.out n;rw [hat] at h1;have e:c=c':=by simpa using h1
        subst e;rw [decide_eq_false_iff_not,h4];exact seg_not hsg
       clear hat;go_wp2_with (with_reducible refine Gz (x:=x) rfl (.tmp 60) (.tmp 62) rfl rfl rfl rfl HO4.out hs4 HOL2.out ?_);intro v5 w5 ho5 hb5 _;have HO5:=Qh ho5;have HB5:=Qh (HB4.out.trans hb5);clear ho5 hb5 HO4;go_wp2;go_roundw
       case rel=>exact⟨k+1,out++[x],by omega,by go_num,Qh (by rw [HFS.out,HSX.out,HOU.out];simp),Qh (by have:=HOL.out;simp;omega),Qh (by simpa using HO5.out),HB5⟩
       case measure=>simp [intOf];omega
      ·have HSX:=Qs (A5 true mn x=false) (by rw [HST.out,κ (by simpa using h3)];simp [hsg]);go_wp2_with (first|(at_lookup;refine wpList_lookup_own_int _ rfl _ _ 215 rfl 3 3 .i64 (int_keyed underlying3) underlying215 underlying3 (by kernel_rfl) (w.heap.size+1) _ D rfl HM4.out _ _ rfl (keyOf_int_mk underlying3 HBD.out) ?_));intro c hat _;have hc:decide (0<c)=true:=by
        obtain⟨c',h1,h2,h3,h4⟩:=HCN.out n;rw [hat] at h1;have e:c=c':=by simpa using h1
        subst e;rw [decide_eq_true_eq,h4];exact seg_mem hsg
       clear hat;go_wp2;go_roundw
       case rel=>exact⟨k+1,out,by omega,by go_num,Qh (by rw [HFS.out,HSX.out,HOU.out];simp),Qh (by have:=HOL.out;omega),HO4,HB4⟩
       case measure=>simp [intOf];omega
    ·obtain rfl:k=L.length:=by omega
     have HFI:=Qs (straysD d true mn=out) (by rw [HOU.out,List.take_of_length_le (by simp [Cu])];unfold straysD;rw [←HFL.out]);go_wp2;refine π (v:=_) (results_tmp rfl _ _ _) rfl ⟨_,rfl,?_,Below.next HB2.out HB.out⟩;rw [HFI.out];exact Oj HO.out HB2.out.size
end
def B6 (d:Af):(Da×Bool×Int)×Nat:=
 match Kk d Aw with
 |none=>if Av d Aw=51 then ((zeroM,false,0),0) else ((zeroM,false,Av d Aw),0)
 |some x=>if (B2 x.data).2≠0 then ((zeroM,false,(B2 x.data).2),x.data.length) else (((B2 x.data).1,true,0),x.data.length)
theorem Nt {p r:Tmp} (h:fn.results= #[.cell p 69,.tmp q,.tmp r]) (tmps:Array Value) (w:World) (g:Nat) (m:Da) (sv x y:Value)
  (hp:tmps.getD p undef= .pointer (some ⟨g,0,none⟩)) (hq:tmps.getD q undef=x) (hr:tmps.getD r undef=y) (hE:At w g m sv):(results fn tmps).run prog w= .ok (.tuple #[mnV m sv,x,y]) w:=by
 have hl:=run_load_mn hE;have hp':tmps[p]?.getD undef= .pointer (some ⟨g,0,none⟩):=by simpa using hp
 have hq':tmps[q]?.getD undef=x:=by simpa using hq
 have hr':tmps[r]?.getD undef=y:=by simpa using hr
 simp [results,h,hp',hq',hr',asAddr,hl]
def LoadMP (w:World) (f m:Nat) (d:Af) (L:List Aq) (r:(Da×Bool×Int)×Nat) (e:Ending) (w':World):Prop:=
 ∃ sv,e= .returned (.tuple #[mnV r.1.1 sv,.bool r.1.2.1,Vi Vk r.1.2.2])∧Fu (fun k=>w.heap.size≤k) w' sv r.1.1.segs∧sv.oneCell'=true∧Bv w' f m (Df d r.2) L∧Ab (fun i=>i=f) w w'
theorem manLoad_any (w:World) (f m:Nat) (d:Af) (L:List Aq) (h:Bv w f m d L) (hn:Bh w):
  Calls prog 85 #[.pointer (some ⟨f,0,none⟩)] w (LoadMP w f m d L (B6 d)):=by
 have HB0:=Qh (Aa w (.cells (B3 zeroM (.slice none 0 0)) 69));have HM0:=Qh (Ca w zeroM (.slice none 0 0));have HF0:=Qh (h.below HB0.out);have HN0:=Qh (hn.below HB0.out)
 have HE:=Qh (show B6 d=match Kk d Aw with
  |none=>if Av d Aw=51 then ((zeroM,false,0),0) else ((zeroM,false,Av d Aw),0)
  |some x=>if (B2 x.data).2≠0 then ((zeroM,false,(B2 x.data).2),x.data.length) else (((B2 x.data).1,true,0),x.data.length) from rfl)
 have HSI:=Qh (Ol _ f m d L HF0.out Aw);have hfl:=h.hd.lt;have HLT:=Qh h.lt;clear h hn;simp only [B3,zeroM] at HB0 HM0 HF0 HN0 HSI;go_enter func85,ntmps85;by_cases he:Av d Aw=0
 ·obtain⟨x,hx,hfx⟩:=filD_some he;rw [sizeO he hx] at HSI;have HLX:=Qh (fil_len HF0.out hx);have HRD:=Qh (show Calls prog 32 #[.pointer (some ⟨f,0,none⟩),.string ⟨Aw.toArray⟩,Vi Vk 0,Vi Vk (x.data.length:Int)] (w.alloc (.cells #[Vi Vk 0,Vi Vk 0,Vi Vk 0,Vi Vk 0,Vi Vk 0,.slice none 0 0] 69)) fun e w'=> ∃ v,e= .returned (.tuple #[v,Vi Vk 0])∧Cw w' (w.heap.size+1) v x.data∧Bv w' f m (Df d x.data.length) L∧Ab (fun i=>i=f) (w.alloc (.cells #[Vi Vk 0,Vi Vk 0,Vi Vk 0,Vi Vk 0,Vi Vk 0,.slice none 0 0] 69)) w' by
   have:=Ld _ f m d L HF0.out Aw x he hx 0 x.data.length (by omega);rw [List.drop_zero,List.take_of_length_le (μ _),World.size_alloc] at this;exact this)
  have HE2:=Qs (B6 d=if (B2 x.data).2≠0 then ((zeroM,false,(B2 x.data).2),x.data.length) else (((B2 x.data).1,true,0),x.data.length)) (by rw [HE.out,hfx]);obtain⟨l,hl⟩: ∃ l,l=x.data:=⟨_,rfl⟩;rw [←hl] at HSI HRD HE2 HLX;clear HE he hx hfx hl;obtain⟨mn,hmn⟩: ∃ mn,mn=Aw:=⟨_,rfl⟩;rw [show Aw=[109,97,110,105,102,101,115,116] from rfl] at HSI HRD;clear hmn mn;go_wp2_with fail;refine HSI.out.mono ?_;rintro e w0 ⟨rfl,rfl⟩;go_wp2_with fail;refine HRD.out.mono ?_;rintro e w1 ⟨bv,rfl,hbo,hf1,ht1⟩;have HNE:=fs_nib HF0.out HN0.out;have HN1:=Qh (HN0.out.turned ht1 HNE HN0.out.lt);have HT1:=Qh (show Ab (fun i=>i=f) w w1 from(Ab.below HB0.out).trans ht1 fun i hi=> .inl hi);have HF1:=Qh hf1;have HM1:=Qs (At w1 w.heap.size ⟨0,0,0,0,0,[]⟩ (.slice none 0 0)) (by
   have h:=HM0.out;unfold At at h ⊢;rw [ht1.block _ (δ.1 h).1 (by omega)];exact h)
  have HDC:=Qh (manDecode_any l bv w1 hbo.brow HLX.out HN1.out);obtain⟨ob,bcap,rfl,_,_⟩:=Aj hbo;obtain⟨r,hr⟩: ∃ r,r=B2 l:=⟨_,rfl⟩;rw [←hr] at HDC HE2;clear hr hbo hf1 ht1 HRD HSI HM0 HF0 HN0 HB0;obtain⟨mr,e1⟩:=r;unfold DecMP at HDC;dsimp only at HE2 HDC;go_wp2_with fail;refine HDC.out.mono ?_;rintro e w2 ⟨sv,rfl,hsg,h1v,hb2⟩;have HF2:=Qh (HF1.out.below hb2);have HT2:=Qh (show Ab (fun i=>i=f) w w2 from HT1.out.trans (Ab.below hb2) fun i hi=> .inl hi);have HM2:=Qh (HM1.out.below hb2);have hsz1:=HT1.out.size;have HSG2:=Qh (hsg.mono (A':=fun k=>w.heap.size+1≤k) (fun k hk=>by have:=(δ.1 HM1.out).1;omega));obtain⟨osg,scap,rfl,_,_,_⟩:=hsg;have HMz:=Qh (Ca w2 zeroM (.slice none 0 0));have HBz:=Qh (Aa w2 (.cells (B3 zeroM (.slice none 0 0)) 69));simp only [B3,zeroM] at HMz HBz;clear hb2 HDC HF1 HN1 HM1 HT1;go_wp2_with (with_reducible refine Bp rfl (.tmp 9) (.tmp 31) rfl w2.heap.size ⟨0,0,0,0,0,[]⟩ mr (.slice none 0 0) (.slice osg mr.segs.length scap) rfl rfl HMz.out rfl ?_);intro w3 hw3;have HB3:=Qs (Below w2.heap.size w2 w3) (by rw [hw3.out];exact Bw HBz.out (μ _) _);have HM3:=Qs (At w3 w2.heap.size mr (.slice osg mr.segs.length scap)) (by rw [hw3.out];exact HMz.out.row);have HF3:=Qh (HF2.out.below HB3.out);have HT3:=Qh (show Ab (fun i=>i=f) w w3 from HT2.out.trans (Ab.below HB3.out) fun i hi=> .inl hi);have HM3':=Qh (HM2.out.below HB3.out);have HSG3:=Qh (HSG2.out.below HB3.out);clear hw3 HMz HBz HB3 HF2 HT2 HM2 HSG2;rcases h1:(e1 != 0) with _|_
  ·have HE3:=Qs (B6 d=((mr,true,0),l.length)) (by rw [HE2.out,γ (by simpa using h1)]);go_wp2_with (first|(with_reducible refine Co rfl (.tmp 9) rfl w2.heap.size mr (.slice osg mr.segs.length scap) rfl HM3.out ?_)|(with_reducible refine Bp rfl (.tmp 2) (.tmp 37) rfl w.heap.size ⟨0,0,0,0,0,[]⟩ mr (.slice none 0 0) (.slice osg mr.segs.length scap) rfl rfl HM3'.out rfl ?_));intro w4 hw4;have HM4:=Qs (At w4 w.heap.size mr (.slice osg mr.segs.length scap)) (by rw [hw4.out];exact HM3'.out.row);have ht4:Ab (fun k=>k=w.heap.size) w3 w4:=by rw [hw4.out];exact Ax _ _ _
   have HF4:=Qh (HF3.out.turned ht4 fun k hk=>by have:=HLT.out k hk;omega);have HT4:=Qh (show Ab (fun i=>i=f) w w4 from HT3.out.trans ht4 fun i hi=> .inr (by omega));have HSG4:=Qh (HSG3.out.turned ht4 fun k hk=>by omega);clear hw4;go_wp2;exact π (v:= .tuple #[mnV mr (.slice osg mr.segs.length scap),.bool true,Vi Vk 0]) (Nt rfl _ _ w.heap.size mr (.slice osg mr.segs.length scap) _ _ rfl rfl rfl HM4.out) rfl ⟨_,by rw [HE3.out],by rw [HE3.out];exact HSG4.out.mono fun k hk=>by omega,rfl,by rw [HE3.out];exact HF4.out,HT4.out⟩
  ·have HE3:=Qs (B6 d=((zeroM,false,e1),l.length)) (by rw [HE2.out,κ (by simpa using h1)]);go_wp2_with (with_reducible refine Bp rfl (.tmp 2) (.tmp 35) rfl w.heap.size ⟨0,0,0,0,0,[]⟩ zeroM (.slice none 0 0) (.slice none 0 0) rfl rfl HM3'.out rfl ?_);intro w4 hw4;have HM4:=Qs (At w4 w.heap.size zeroM (.slice none 0 0)) (by rw [hw4.out];exact HM3'.out.row);have ht4:Ab (fun k=>k=w.heap.size) w3 w4:=by rw [hw4.out];exact Ax _ _ _
   have HF4:=Qh (HF3.out.turned ht4 fun k hk=>by have:=HLT.out k hk;omega);have HT4:=Qh (show Ab (fun i=>i=f) w w4 from HT3.out.trans ht4 fun i hi=> .inr (by omega));clear hw4;go_wp2;exact π (v:= .tuple #[mnV zeroM (.slice none 0 0),.bool false,Vi Vk e1]) (Nt rfl _ _ w.heap.size zeroM (.slice none 0 0) _ _ rfl rfl rfl HM4.out) rfl ⟨_,by rw [HE3.out],by rw [HE3.out];exact D8 _ _,rfl,by rw [HE3.out];exact HF4.out,HT4.out⟩
 ·rw [sizeE he] at HSI;have HE2:=Qs (B6 d=if Av d Aw=51 then ((zeroM,false,0),0) else ((zeroM,false,Av d Aw),0)) (by rw [HE.out,filD_none he]);have t1:(Av d Aw != 0)=true:=by simpa using he
  obtain⟨e0,he0⟩: ∃ e0,e0=Av d Aw:=⟨_,rfl⟩;rw [←he0] at HSI HE2 t1;rw [show Aw=[109,97,110,105,102,101,115,116] from rfl] at HSI;clear he0 he HE;rcases h1:(e0==51) with _|_
  ·have HE3:=Qs (B6 d=((zeroM,false,e0),0)) (by rw [HE2.out,γ (by simpa using h1)]);go_wp2_with fail;refine HSI.out.mono ?_;rintro e w0 ⟨rfl,rfl⟩;go_wp2_with (with_reducible refine Bp rfl (.tmp 2) (.tmp 20) rfl w.heap.size ⟨0,0,0,0,0,[]⟩ zeroM (.slice none 0 0) (.slice none 0 0) rfl rfl HM0.out rfl ?_);intro w4 hw4;have HM4:=Qs (At w4 w.heap.size zeroM (.slice none 0 0)) (by rw [hw4.out];exact HM0.out.row);have HB4:=Qs (Below w.heap.size w w4) (by rw [hw4.out];exact Bw HB0.out (μ _) _);have HF4:=Qs (Bv w4 f m d L) (by rw [hw4.out];exact HF0.out.turned (Ax _ _ _) fun k hk=>by have:=HLT.out k hk;omega);clear hw4;go_wp2;exact π (v:= .tuple #[mnV zeroM (.slice none 0 0),.bool false,Vi Vk e0]) (Nt rfl _ _ w.heap.size zeroM (.slice none 0 0) _ _ rfl rfl rfl HM4.out) rfl ⟨_,by rw [HE3.out],by rw [HE3.out];exact D8 _ _,rfl,by rw [HE3.out,Lc HF4.out.ok];exact HF4.out,Ab.below HB4.out⟩
  ·have HE3:=Qs (B6 d=((zeroM,false,0),0)) (by rw [HE2.out,κ (by simpa using h1)]);go_wp2_with fail;refine HSI.out.mono ?_;rintro e w0 ⟨rfl,rfl⟩;go_wp2_with (with_reducible refine Bp rfl (.tmp 2) (.tmp 17) rfl w.heap.size ⟨0,0,0,0,0,[]⟩ zeroM (.slice none 0 0) (.slice none 0 0) rfl rfl HM0.out rfl ?_);intro w4 hw4;have HM4:=Qs (At w4 w.heap.size zeroM (.slice none 0 0)) (by rw [hw4.out];exact HM0.out.row);have HB4:=Qs (Below w.heap.size w w4) (by rw [hw4.out];exact Bw HB0.out (μ _) _);have HF4:=Qs (Bv w4 f m d L) (by rw [hw4.out];exact HF0.out.turned (Ax _ _ _) fun k hk=>by have:=HLT.out k hk;omega);clear hw4;go_wp2;exact π (v:= .tuple #[mnV zeroM (.slice none 0 0),.bool false,Vi Vk 0]) (Nt rfl _ _ w.heap.size zeroM (.slice none 0 0) _ _ rfl rfl rfl HM4.out) rfl ⟨_,by rw [HE3.out],by rw [HE3.out];exact D8 _ _,rfl,by rw [HE3.out,Lc HF4.out.ok];exact HF4.out,Ab.below HB4.out⟩
def cuCs (v:Value) (p:Nat):Array Value:= #[v,Vi Vk (p:Int)]
def Ed (w:World) (c:Nat) (v:Value) (p:Nat):Prop:=w.heap[c]? =some (.cells (cuCs v p) 298 (0,0))
theorem Ed.below (h:Ed w c v p) (hb:Below w.heap.size w w'):Ed w' c v p:=by
 unfold Ed at *;rw [hb.block c (δ.1 h).1];exact h
theorem Ed.lt (h:Ed w c v p):c<w.heap.size:=(δ.1 h).1
theorem Ed.c0 (h:Ed w c v p):w.cell? ⟨c,0,none⟩=some v:=by unfold Ed at h;simp [World.cell?,h,cuCs]
theorem Ed.c1 (h:Ed w c v p):w.cell? ⟨c,1,none⟩=some (Vi Vk (p:Int)):=by unfold Ed at h;simp [World.cell?,h,cuCs]
theorem Ed.free (h:Ed w c v p) (j:Nat):w.frozen? ⟨c,j,none⟩=false:=by unfold Ed at h;simp [World.frozen?,h]
theorem Ed.set {q:Nat} (h:Ed w c v p):Ed (w.setCell ⟨c,1,none⟩ (Vi Vk (q:Int))) c v q:=by
 have e:(cuCs v p).setIfInBounds 1 (Vi Vk (q:Int))=cuCs v q:=rfl;unfold Ed at h ⊢;rw [←e];simp only [World.setCell];rw [Array.getElem?_modify];simp [h]
def Panics (n:Int) (e:Ending):Prop:=e= .panicked [{v:= .iface 28 (Vi Vk n),recovered:=false}]
def NumPost (w:World) (c:Nat) (v:Value) (p:Nat) (r:Nat×Nat×Int) (e:Ending) (w':World):Prop:=
 (r.2.2=0→e= .returned (.int .u64 (r.1:Int))∧Ed w' c v (p+r.2.1))∧(¬ r.2.2=0→Panics r.2.2 e∧Ed w' c v p)∧Ab (fun k=>k=c) w w'
theorem cuNum_any (l:List UInt8) (v:Value) (w:World) (c p:Nat) (hC:Ed w c v p) (hv:B7 w v l) (hp:p≤l.length) (hl:l.length≤1048576):
  Calls prog 191 #[.pointer (some ⟨c,0,none⟩)] w (NumPost w c v p (A3 (l.drop p))):=by
 have HC:=Qh hC;have HV:=Qh hv;have HVN:=Qh (@Jw (l.drop p));obtain⟨oa,cap,rfl,hlc,_⟩:=hv;have hdl:(l.drop p).length=l.length - p:=Λ;have HB1:=Qs (B7 w (sliced oa p l.length cap 1) (l.drop p)) (by
  have:=Jv (lo:=p) (hi:=l.length) (mx:=cap) HV.out hp (μ _) hlc;rwa [List.take_length] at this)
 have hcut: ∀ W,(Instr.sliceAt 39 (.slice oa l.length cap) (some (Vi Vk (p:Int))) none none).run prog W= .ok (sliced oa p l.length cap 1) W:=fun W=>by
  rw [Id];exact Ok oa l.length cap p hp W
 obtain⟨cv,hcv⟩: ∃ cv,cv=sliced oa p l.length cap 1:=⟨_,rfl⟩;rw [←hcv] at HB1 hcut;obtain⟨r,hr⟩: ∃ r,r=A3 (l.drop p):=⟨_,rfl⟩;have HVD:=Qh (fun W (hb:B7 W cv (l.drop p))=>I1 (l.drop p) cv W hb (by omega));rw [hdl] at HVN;rw [←hr] at HVD HVN;rw [←hr];clear hr hcv hC hdl;obtain⟨u,n,e0⟩:=r;unfold VarPost at HVD;dsimp only at HVD HVN;go_enter func191,ntmps191;go_wp2_with fail;refine ε (S:=fun w'=>Below w.heap.size w w') (by kernel_rfl) (Ac w 1) (fun hHeld=> ?_);have FX1:=Qh (fun(wF:World) (hSw:(fun w'=>Below w.heap.size w w') wF)=>And.intro ((cell_later hSw HC.out.c0)) ((cell_later hSw HC.out.c1)));refine tf FX1 0 rfl ?_;refine tf FX1 1 rfl ?_;refine tf FX1 2 rfl ?_;refine tf FX1 3 rfl ?_;refine tf FX1 4 rfl ?_;refine tf FX1 5 rfl ?_;refine tf FX1 6 rfl ?_;refine tf FX1 7 rfl ?_;clear FX1;refine tq 8 rfl ?_;refine Rd 9 rfl fun K hK=> ?_;go_simp;go_at_call 76;refine(HVD.out _ (HB1.out.below hHeld)).mono ?_;rintro e w1 ⟨rfl,hb1⟩;have HB:=Qh (Below.next hHeld hb1);clear hb1 hHeld;go_wp2_with fail;refine hK.out _ _ HB.out (fun hHeld=> ?_);clear hK K;refine tq 10 rfl ?_;refine tq 11 rfl ?_;refine tq 12 rfl ?_;refine tq 13 rfl ?_;refine tq 14 rfl ?_;refine tq 15 rfl ?_;refine tq 16 rfl ?_;refine Ξ (by kernel_rfl) ?_ _;have HC1:=Qh (HC.out.below HB.out);clear hHeld HVD hcut;rcases he:(e0 != 0) with _|_
 ·have he0:e0=0:=by simpa using he
  have h2:=HVN.out he0;have hw:IntKind.i64.wrap ((p:Int)+(n:Int))=((p+n:Nat):Int):=by rw [ν];omega
  have c1:=HC1.out.c1;have f1:=HC1.out.free 1;have HE:=Qh he0;clear he0 HVN h2;go_wp2;refine π (v:= .int .u64 (u:Int)) (by simp [results,results191,go_sem]) rfl ⟨fun _=>⟨rfl,HC1.out.set⟩,fun h=>absurd HE.out h,?_⟩;exact(Ab.below HB.out).trans (Ab.setCell (S:=fun k=>k=c) _ ⟨c,1,none⟩ _ rfl) fun i hi=> .inl hi
 ·have he0: ¬ e0=0:=by simpa using he
  have HE:=Qh he0;clear he0 HVN;go_wp2;exact⟨rfl,fun h=>absurd h HE.out,fun _=>⟨rfl,HC1.out⟩,Ab.below HB.out⟩
structure Ce where
 tag:Nat
 text:Bool
 num:Nat
 data:List UInt8
def B9:Ce:=⟨0,false,0,[]⟩
def Gb (f:Ce) (bv:Value):Array Value:= #[Vi Vk (f.tag:Int),.bool f.text,.int .u64 (f.num:Int),bv]
@[reducible] def fdV (f : Ce) (bv : Value) : Value := .agg #[Vi Vk (f.tag : Int), .bool f.text, .int .u64 (f.num : Int), bv]
def B0 (w:World) (g:Nat) (f:Ce) (bv:Value):Prop:=w.heap[g]? =some (.cells (Gb f bv) 257 (0,0))
theorem B0.lt {f:Ce}  (h:B0 w g f bv):g<w.heap.size:=(δ.1 h).1
theorem B0.below {f:Ce}  (h:B0 w g f bv) (hb:Below w.heap.size w w'):B0 w' g f bv:=by
 unfold B0 at *;rw [hb.block g (δ.1 h).1];exact h
theorem B0.turned {f:Ce}  (h:B0 w g f bv) (ht:Ab S w w') (hS: ¬ S g):B0 w' g f bv:=by
 unfold B0 at *;rw [ht.block g (δ.1 h).1 hS];exact h
theorem B0.cell {f:Ce}  (h:B0 w g f bv) (j:Nat):w.cell? ⟨g,j,none⟩=(Gb f bv)[j]? :=by
 unfold B0 at h;simp [World.cell?,h]
theorem B0.c0 {f:Ce}  (h:B0 w g f bv):w.cell? ⟨g,0,none⟩=some (Vi Vk (f.tag:Int)):=h.cell 0
theorem B0.c1 {f:Ce}  (h:B0 w g f bv):w.cell? ⟨g,1,none⟩=some (.bool f.text):=h.cell 1
theorem B0.c2 {f:Ce}  (h:B0 w g f bv):w.cell? ⟨g,2,none⟩=some (.int .u64 (f.num:Int)):=h.cell 2
theorem B0.c3 {f:Ce}  (h:B0 w g f bv):w.cell? ⟨g,3,none⟩=some bv:=h.cell 3
theorem B0.free {f:Ce}  (h:B0 w g f bv) (j:Nat):w.frozen? ⟨g,j,none⟩=false:=by unfold B0 at h;simp [World.frozen?,h]
theorem B0.set {f f':Ce} {bv' x:Value} (h:B0 w g f bv) (e:(Gb f bv).setIfInBounds j x=Gb f' bv'):B0 (w.setCell ⟨g,j,none⟩ x) g f' bv':=by
 unfold B0 at h ⊢;rw [←e];simp only [World.setCell];rw [Array.getElem?_modify];simp [h]
theorem B0.other {f:Ce} {x:Value} (h:B0 w g f bv) (hn:g≠k):B0 (w.setCell ⟨k,j,none⟩ x) g f bv:=by
 unfold B0 at h ⊢;simp only [World.setCell];rw [Array.getElem?_modify,γ (fun e=>hn e.symm)];exact h
theorem Eu (w:World) (f:Ce) (bv:Value):B0 (w.alloc (.cells (Gb f bv) 257)) w.heap.size f bv:=σ w _
theorem fdInfo:(prog.info? 257).map (·.size)=some 4:=by kernel_rfl
theorem fdCs_all (f:Ce) (bv:Value) (h:bv.oneCell'=true):(Gb f bv).all (·.oneCell')=true:=
 Array.all_eq_true_iff_forall_mem.2 (by
  intro u hu
  simp only [Gb,List.mem_toArray,Δ,Ω,or_false] at hu
  rcases hu with rfl|rfl|rfl|rfl
  ·rfl
  ·rfl
  ·rfl
  ·exact h)
theorem B0.row {f f':Ce} {bv':Value} (h:B0 w g f bv):B0 (w.setRow g (Gb f' bv')) g f' bv':=by
 exact setRow_heap w g _ _ _ _ h
theorem Eb (hgd:o.guard=none) (x:Operand) (ho:o.op= .load 257 x)
  (g:Nat) (f:Ce) (bv:Value) (hx:a.eval x= .pointer (some ⟨g,0,none⟩)) (hE:B0 w g f bv)
  (h:wpList prog ops Q rest (a.put o.dst (fdV f bv)) w):wpList prog ops Q (o::rest) a w:=
 wpList_load_row hgd 257 x ho g hx 257 (Gb f bv) (0,0) _ hE underlying257 rfl fdInfo h
theorem C7 (hgd:o.guard=none) (x y:Operand) (ho:o.op= .store 257 x y)
  (g:Nat) (f f':Ce) (bv bv':Value) (hx:a.eval x= .pointer (some ⟨g,0,none⟩)) (hy:a.eval y=fdV f' bv') (hE:B0 w g f bv) (h1:bv'.oneCell'=true)
  (h: ∀ W,Hid (W=w.setRow g (Gb f' bv'))→wpList prog ops Q rest (a.put o.dst undef) W):wpList prog ops Q (o::rest) a w:=
 wpList_store_row hgd 257 x y ho g (Gb f' bv') hx hy 257 (Gb f bv) hE fdInfo rfl (fdCs_all f' bv' h1) (h _ (Qh rfl))
theorem run_load_fd {f:Ce}  (hE:B0 w g f bv):(loadVar 257 ⟨g,0,none⟩).run prog w= .ok (fdV f bv) w:=
 run_loadVar_row (P:=prog) w g 257 257 (Gb f bv) (0,0) _ hE underlying257 rfl fdInfo
theorem Le {p:Tmp} (h:fn.results= #[.cell p 257]) (tmps:Array Value) (w:World) (g:Nat) (f:Ce) (bv:Value)
  (hp:tmps.getD p undef= .pointer (some ⟨g,0,none⟩)) (hE:B0 w g f bv):(results fn tmps).run prog w= .ok (fdV f bv) w:=by
 have hl:=run_load_fd hE;have hp':tmps[p]?.getD undef= .pointer (some ⟨g,0,none⟩):=by simpa using hp
 simp [results,h,hp',asAddr,hl]
theorem half_wrap (h:k<64):wrap64 (IntKind.u64.wrap ((k:Int) / 2))=((k / 2:Nat):Int):=by
 obtain⟨t,ht⟩: ∃ t,t=k / 2:=⟨_,rfl⟩;have h1:((k:Int) / 2)=(t:Int):=by omega
 have h2:t<32:=by omega
 rw [h1,←ht,IntKind.wrap_u64,Int.emod_eq_of_lt (by omega) (by omega)];clear h1 ht h;unfold wrap64;omega
theorem cu_row' {n0 cap0:Nat} {oa0:Option Addr}  (h:Ed w c (.slice oa0 n0 cap0) p) (hv:B7 w v l) (ht:Ab (fun k=>k=c) w w'):B7 w' v l:=by
 obtain⟨oa,cap,rfl,hlc,hc⟩:=hv;refine⟨oa,cap,rfl,hlc,fun hn=> ?_⟩;obtain⟨b,off,e,hcell⟩:=hc hn;refine⟨b,off,e,fun i x hx=> ?_⟩;refine ht.cell (hcell i x hx) fun hb=> ?_;have hb':b=c:=hb;subst hb';have h1:=hcell i x hx;unfold Ed at h;simp only [World.cell?,h,cuCs] at h1;rcases hj:off+i with _|_|k
 ·rw [hj] at h1;simp at h1
 ·rw [hj] at h1;simp at h1
 ·rw [hj] at h1;simp at h1
theorem cu_row (h:Ed w c v p) (hv:B7 w v l) (ht:Ab (fun k=>k=c) w w'):B7 w' v l:=by
 obtain⟨oa,cap,rfl,_,_⟩:=id hv;exact cu_row' h hv ht
def Fm (b:List UInt8) (p last:Nat):Int×Ce×Nat:=
 if (A3 (b.drop p)).2.2≠0 then ((A3 (b.drop p)).2.2,B9,0)
 else if 63<(A3 (b.drop p)).1∨(A3 (b.drop p)).1 / 2=0 then (20,B9,0)
 else if (A3 (b.drop p)).1 / 2≤last then (21,B9,0)
 else
  let q:=p+(A3 (b.drop p)).2.1
  let k:=(A3 (b.drop p)).1
  if (A3 (b.drop q)).2.2≠0 then ((A3 (b.drop q)).2.2,B9,0)
  else
   let u:=(A3 (b.drop q)).1
   let s:=q+(A3 (b.drop q)).2.1
   if u=0 then (22,B9,0)
   else if k % 2=0 then (0,⟨k / 2,false,u,[]⟩,s)
   else if 200<u then (23,B9,0)
   else if b.length - s<u then (10,B9,0)
   else (0,⟨k / 2,true,0,(b.drop s).take u⟩,s+u)
def FldPost (w:World) (c:Nat) (v:Value) (r:Int×Ce×Nat) (e:Ending) (w':World):Prop:=
 (r.1=0→ ∃ bv,e= .returned (fdV r.2.1 bv)∧Cw w' w.heap.size bv r.2.1.data∧Ed w' c v r.2.2)∧(¬ r.1=0→Panics r.1 e)∧Ab (fun k=>k=c) w w'
theorem cuField_any (l:List UInt8) (v:Value) (w:World) (c p last:Nat) (hC:Ed w c v p) (hv:B7 w v l) (hp:p≤l.length) (hl:l.length≤1048576):
  Calls prog 183 #[.pointer (some ⟨c,0,none⟩),Vi Vk (last:Int)] w (FldPost w c v (Fm l p last)):=by
 have HB0:=Qh (Aa w (.cells #[Vi Vk 0,.bool false,.int .u64 0,.slice none 0 0] 257));have HR0:=Qs (B0 (w.alloc (.cells #[Vi Vk 0,.bool false,.int .u64 0,.slice none 0 0] 257)) w.heap.size B9 (.slice none 0 0)) (Eu w B9 (.slice none 0 0));have HC0:=Qh (hC.below HB0.out);have HV0:=Qh (hv.below HB0.out);have hcl:=hC.lt;have HCW:=Qh hC;have HVW:=Qh hv;have HNM:=Qh (cuNum_any l v _ c p HC0.out HV0.out hp hl);have HE:=Qh (show Fm l p last=if (A3 (l.drop p)).2.2≠0 then ((A3 (l.drop p)).2.2,B9,0)
 else if 63<(A3 (l.drop p)).1∨(A3 (l.drop p)).1 / 2=0 then (20,B9,0)
 else if (A3 (l.drop p)).1 / 2≤last then (21,B9,0)
 else
  let q:=p+(A3 (l.drop p)).2.1
  let k:=(A3 (l.drop p)).1
  if (A3 (l.drop q)).2.2≠0 then ((A3 (l.drop q)).2.2,B9,0)
  else
   let u:=(A3 (l.drop q)).1
   let s:=q+(A3 (l.drop q)).2.1
   if u=0 then (22,B9,0)
   else if k % 2=0 then (0,⟨k / 2,false,u,[]⟩,s)
   else if 200<u then (23,B9,0)
   else if l.length - s<u then (10,B9,0)
   else (0,⟨k / 2,true,0,(l.drop s).take u⟩,s+u) from rfl)
 have HVN:=Qh (@Jw (l.drop p));have hdl:(l.drop p).length=l.length - p:=Λ;rw [hdl] at HVN;obtain⟨r,hr⟩: ∃ r,r=A3 (l.drop p):=⟨_,rfl⟩;rw [←hr] at HNM HE HVN;clear hr hC hv hdl;obtain⟨k,n,e0⟩:=r;unfold NumPost at HNM;dsimp only at HNM HE HVN;go_enter func183,ntmps183;go_wp2_with fail;refine HNM.out.mono ?_;rintro e w1 ⟨h1,h2,ht⟩;by_cases he:e0=0
 case neg=>
  obtain⟨rfl,hc1⟩:=h2 he;have HT:=Qh (show Ab (fun k=>k=c) w w1 from(Ab.below HB0.out).trans ht fun i hi=> .inl hi);have HE2:=Qs (Fm l p last=(e0,B9,0)) (by rw [HE.out,κ he]);have HNE:=Qh he;clear he h1 h2 ht;go_wp2;exact⟨rfl,fun h=>absurd (by rw [HE2.out] at h;exact h) HNE.out,fun _=>by rw [HE2.out];rfl,HT.out⟩
 obtain⟨rfl,hc1⟩:=h1 he;have HT:=Qh (show Ab (fun k=>k=c) w w1 from(Ab.below HB0.out).trans ht fun i hi=> .inl hi);have HC1:=Qh hc1;have HV1:=Qh (cu_row HC0.out HV0.out ht);have HR1:=Qh (HR0.out.turned ht (by omega));have hn:=HVN.out he;clear h1 h2 ht hc1 HNM HC0 HV0 HB0 HR0 HVN;rcases hk:decide ((63:Int)<(k:Int)) with _|_
 case true=>
  have HE2:=Qs (Fm l p last=(20,B9,0)) (by rw [HE.out,γ (fun h=>h he),κ (.inl (by simp at hk;omega))]);clear he;go_wp2;exact⟨rfl,fun h=>absurd (by rw [HE2.out] at h;exact h) (by decide),fun _=>by rw [HE2.out];rfl,HT.out⟩
 have hk63:k≤63:=by simp at hk;omega
 have HK63:=Qh hk63;obtain⟨tg,htg⟩: ∃ tg,tg=k / 2:=⟨_,rfl⟩;have HTG:=Qh htg;have hq:wrap64 (IntKind.u64.wrap ((k:Int) / 2))=(tg:Int):=by
  rw [htg];exact half_wrap (Nat.lt_succ_of_le HK63.out)
 have HE1:=Qh (show Fm l p last=if tg=0 then (20,B9,0) else if tg≤last then (21,B9,0)
 else
  if (A3 (l.drop (p+n))).2.2≠0 then ((A3 (l.drop (p+n))).2.2,B9,0)
  else
   if (A3 (l.drop (p+n))).1=0 then (22,B9,0)
   else if k % 2=0 then (0,⟨tg,false,(A3 (l.drop (p+n))).1,[]⟩,p+n+(A3 (l.drop (p+n))).2.1)
   else if 200<(A3 (l.drop (p+n))).1 then (23,B9,0)
   else if l.length - (p+n+(A3 (l.drop (p+n))).2.1)<(A3 (l.drop (p+n))).1 then (10,B9,0)
   else (0,⟨tg,true,0,(l.drop (p+n+(A3 (l.drop (p+n))).2.1)).take (A3 (l.drop (p+n))).1⟩,p+n+(A3 (l.drop (p+n))).2.1+(A3 (l.drop (p+n))).1) by
  rw [HE.out,γ (fun h=>h he),htg];by_cases h0:k / 2=0
  ·rw [κ (.inr h0),κ h0]
  ·rw [γ (by rintro(h|h)<;>(clear hq;omega)),γ h0])
 clear htg hk63 HE;rcases h1:((tg:Int)==0) with _|_
 case true=>
  have HE2:=Qs (Fm l p last=(20,B9,0)) (by rw [HE1.out,κ (by simp at h1;clear hq;omega)]);clear he;rcases hb:((k:Int) % 2==1) with _|_
  ·go_wp2;exact⟨rfl,fun h=>absurd (by rw [HE2.out] at h;exact h) (by decide),fun _=>by rw [HE2.out];rfl,HT.out.trans (Ab.below (Aa _ _)) fun i hi=> .inl hi⟩
  ·go_wp2;exact⟨rfl,fun h=>absurd (by rw [HE2.out] at h;exact h) (by decide),fun _=>by rw [HE2.out];rfl,HT.out.trans (Ab.below (Aa _ _)) fun i hi=> .inl hi⟩
 rcases h2:decide (tg≤last) with _|_
 case true=>
  have HE2:=Qs (Fm l p last=(21,B9,0)) (by rw [HE1.out,γ (by simp at h1;clear hq;omega),κ (by simp at h2;clear hq;omega)]);clear he;rcases hb:((k:Int) % 2==1) with _|_
  ·go_wp2;exact⟨rfl,fun h=>absurd (by rw [HE2.out] at h;exact h) (by decide),fun _=>by rw [HE2.out];rfl,HT.out.trans (Ab.below (Aa _ _)) fun i hi=> .inl hi⟩
  ·go_wp2;exact⟨rfl,fun h=>absurd (by rw [HE2.out] at h;exact h) (by decide),fun _=>by rw [HE2.out];rfl,HT.out.trans (Ab.below (Aa _ _)) fun i hi=> .inl hi⟩
 have HE2:=Qh (show Fm l p last=if (A3 (l.drop (p+n))).2.2≠0 then ((A3 (l.drop (p+n))).2.2,B9,0)
  else
   if (A3 (l.drop (p+n))).1=0 then (22,B9,0)
   else if k % 2=0 then (0,⟨tg,false,(A3 (l.drop (p+n))).1,[]⟩,p+n+(A3 (l.drop (p+n))).2.1)
   else if 200<(A3 (l.drop (p+n))).1 then (23,B9,0)
   else if l.length - (p+n+(A3 (l.drop (p+n))).2.1)<(A3 (l.drop (p+n))).1 then (10,B9,0)
   else (0,⟨tg,true,0,(l.drop (p+n+(A3 (l.drop (p+n))).2.1)).take (A3 (l.drop (p+n))).1⟩,p+n+(A3 (l.drop (p+n))).2.1+(A3 (l.drop (p+n))).1) by rw [HE1.out,γ (by simp at h1;clear hq;omega),γ (by simp at h2;clear hq;omega)])
 clear HE1;have hqq:p+n≤l.length:=by clear hq;omega
 obtain⟨q,hqe⟩: ∃ q,q=p+n:=⟨_,rfl⟩;rw [←hqe] at HE2 hqq HC1;have HVN:=Qh (@Jw (l.drop q));have hdl:(l.drop q).length=l.length - q:=Λ;rw [hdl] at HVN;have HNM:=Qh (fun W (hC:Ed W c v q) (hv:B7 W v l)=>cuNum_any l v W c q hC hv hqq hl);have HLT:=Qh (decV_lt (l.drop q));obtain⟨r,hr⟩: ∃ r,r=A3 (l.drop q):=⟨_,rfl⟩;rw [←hr] at HNM HE2 HVN HLT;clear hr hdl hqe hn hp he;obtain⟨u,m,e1⟩:=r;unfold NumPost at HNM;dsimp only at HNM HE2 HVN HLT;have hw1:w.heap.size<w1.heap.size:=HR1.out.lt;have hcl1:c<w1.heap.size:=HC1.out.lt;rcases hb:((k:Int) % 2==1) with _|_
 ·
  have HE3:=Qs (Fm l p last=if e1≠0 then (e1,B9,0) else if u=0 then (22,B9,0) else (0,⟨tg,false,u,[]⟩,q+m)) (by rw [HE2.out,κ (show k % 2=0 by simp at hb;clear hq;omega)]);have HBA:=Qh (Aa w1 (.cells #[Vi Vk (tg:Int),.bool false,.int .u64 0,.slice none 0 0] 257));have HFA:=Qs (B0 (w1.alloc (.cells #[Vi Vk (tg:Int),.bool false,.int .u64 0,.slice none 0 0] 257)) w1.heap.size ⟨tg,false,0,[]⟩ (.slice none 0 0)) (Eu w1 ⟨tg,false,0,[]⟩ (.slice none 0 0));have HN2:=Qh (HNM.out _ (HC1.out.below HBA.out) (HV1.out.below HBA.out));clear HE2 HNM;go_wp2_with fail;refine HN2.out.mono ?_;rintro e w2 ⟨g1,g2,ht⟩;have HT2:=Qh (show Ab (fun k=>k=c) w w2 from(HT.out.trans (Ab.below HBA.out) fun i hi=> .inl hi).trans ht fun i hi=> .inl hi);have HR2:=Qh ((HR1.out.below HBA.out).turned ht (by clear hq;omega));have HF2:=Qh (HFA.out.turned ht (by clear hq;omega));by_cases he1:e1=0
  case neg=>
   obtain⟨rfl,hc2⟩:=g2 he1;have HE4:=Qs (Fm l p last=(e1,B9,0)) (by rw [HE3.out,κ he1]);have HNE:=Qh he1;clear he1 g1 g2 ht;go_wp2;exact⟨rfl,fun h=>absurd (by rw [HE4.out] at h;exact h) HNE.out,fun _=>by rw [HE4.out];rfl,HT2.out⟩
  obtain⟨rfl,hc2⟩:=g1 he1;have HC2:=Qh hc2;clear g1 g2 ht hc2 HBA HFA HN2;rcases hu:((u:Int)==0) with _|_
  case true=>
   have HE4:=Qs (Fm l p last=(22,B9,0)) (by rw [HE3.out,γ (fun h=>h he1),κ (by simp at hu;clear hq;omega)]);clear he1;go_wp2;exact⟨rfl,fun h=>absurd (by rw [HE4.out] at h;exact h) (by decide),fun _=>by rw [HE4.out];rfl,HT2.out⟩
  have HE4:=Qs (Fm l p last=(0,⟨tg,false,u,[]⟩,q+m)) (by rw [HE3.out,γ (fun h=>h he1),γ (by simp at hu;clear hq;omega)]);have d1:=HF2.out.c1;have d2:=HF2.out.c2;have f2:=HF2.out.free 2;have HF3:=Qs (B0 (w2.setCell ⟨w1.heap.size,2,none⟩ (.int .u64 (u:Int))) w1.heap.size ⟨tg,false,u,[]⟩ (.slice none 0 0)) (HF2.out.set rfl);have HR3:=Qs (B0 (w2.setCell ⟨w1.heap.size,2,none⟩ (.int .u64 (u:Int))) w.heap.size B9 (.slice none 0 0)) (HR2.out.other (by clear hq;omega));clear he1;go_wp2_with (first|(with_reducible refine Eb rfl (.tmp 6) rfl w1.heap.size ⟨tg,false,u,[]⟩ (.slice none 0 0) rfl HF3.out ?_)|(with_reducible refine C7 rfl (.tmp 4) (.tmp 41) rfl w.heap.size B9 ⟨tg,false,u,[]⟩ (.slice none 0 0) (.slice none 0 0) rfl rfl HR3.out rfl ?_));intro w4 hw4;have HR4:=Qs (B0 w4 w.heap.size ⟨tg,false,u,[]⟩ (.slice none 0 0)) (by rw [hw4.out];exact HR3.out.row);have HT4:=Qh (show Ab (fun k=>k=w1.heap.size∨k=w.heap.size) w2 w4 by rw [hw4.out];exact(Ab.setCell (S:=fun k=>k=w1.heap.size∨k=w.heap.size) _ ⟨w1.heap.size,2,none⟩ _ (.inl rfl)).trans (Ax _ _ _) fun i hi=> .inl (.inr hi));have HC4:=Qs (Ed w4 c v (q+m)) (by
   have h:=HC2.out;unfold Ed at h ⊢;rw [HT4.out.block _ (δ.1 h).1 (by clear hq;omega)];exact h)
  clear hw4;go_wp2;exact π (v:=fdV ⟨tg,false,u,[]⟩ (.slice none 0 0)) (Le rfl _ _ w.heap.size _ _ rfl HR4.out) rfl ⟨fun _=>by rw [HE4.out];exact⟨_,rfl,Cw.nil _ _,HC4.out⟩,fun h=>absurd (by rw [HE4.out]) h,HT2.out.trans HT4.out fun i hi=> .inr (by rcases hi with h|h<;>(clear hq;omega))⟩
 ·
  have HE3:=Qs (Fm l p last=if e1≠0 then (e1,B9,0) else if u=0 then (22,B9,0) else if 200<u then (23,B9,0) else if l.length - (q+m)<u then (10,B9,0) else (0,⟨tg,true,0,(l.drop (q+m)).take u⟩,q+m+u)) (by rw [HE2.out,γ (show ¬ k % 2=0 by simp at hb;clear hq;omega)]);have HBA:=Qh (Aa w1 (.cells #[Vi Vk (tg:Int),.bool true,.int .u64 0,.slice none 0 0] 257));have HFA:=Qs (B0 (w1.alloc (.cells #[Vi Vk (tg:Int),.bool true,.int .u64 0,.slice none 0 0] 257)) w1.heap.size ⟨tg,true,0,[]⟩ (.slice none 0 0)) (Eu w1 ⟨tg,true,0,[]⟩ (.slice none 0 0));have HN2:=Qh (HNM.out _ (HC1.out.below HBA.out) (HV1.out.below HBA.out));have HCA:=Qh (HC1.out.below HBA.out);have HVA:=Qh (HV1.out.below HBA.out);clear HE2 HNM;go_wp2_with fail;refine HN2.out.mono ?_;rintro e w2 ⟨g1,g2,ht⟩;have HT2:=Qh (show Ab (fun k=>k=c) w w2 from(HT.out.trans (Ab.below HBA.out) fun i hi=> .inl hi).trans ht fun i hi=> .inl hi);have HR2:=Qh ((HR1.out.below HBA.out).turned ht (by clear hq;omega));have HF2:=Qh (HFA.out.turned ht (by clear hq;omega));have HV2:=Qh (cu_row HCA.out HVA.out ht);by_cases he1:e1=0
  case neg=>
   obtain⟨rfl,hc2⟩:=g2 he1;have HE4:=Qs (Fm l p last=(e1,B9,0)) (by rw [HE3.out,κ he1]);have HNE:=Qh he1;clear he1 g1 g2 ht;go_wp2;exact⟨rfl,fun h=>absurd (by rw [HE4.out] at h;exact h) HNE.out,fun _=>by rw [HE4.out];rfl,HT2.out⟩
  obtain⟨rfl,hc2⟩:=g1 he1;have hm:=HVN.out he1;obtain⟨s,hs⟩: ∃ s,s=q+m:=⟨_,rfl⟩;have hsl:s≤l.length:=by clear hq;omega
  rw [←hs] at HE3 hc2;have HC2:=Qh hc2;clear g1 g2 ht hc2 HBA HFA HN2 HCA HVA hs hm HVN HTG HK63 hq;rcases hu:((u:Int)==0) with _|_
  case true=>
   have HE4:=Qs (Fm l p last=(22,B9,0)) (by rw [HE3.out,γ (fun h=>h he1),κ (by simp at hu;omega)]);clear he1;have d1:=HF2.out.c1;go_wp2;exact⟨rfl,fun h=>absurd (by rw [HE4.out] at h;exact h) (by decide),fun _=>by rw [HE4.out];rfl,HT2.out⟩
  have HE4:=Qs (Fm l p last=if 200<u then (23,B9,0) else if l.length - s<u then (10,B9,0) else (0,⟨tg,true,0,(l.drop s).take u⟩,s+u)) (by rw [HE3.out,γ (fun h=>h he1),γ (by simp at hu;omega)]);clear he1 HE3;have d1:=HF2.out.c1;rcases h200:decide ((200:Int)<(u:Int)) with _|_
  case true=>
   have HE5:=Qs (Fm l p last=(23,B9,0)) (by rw [HE4.out,κ (by simp at h200;omega)]);go_wp2;exact⟨rfl,fun h=>absurd (by rw [HE5.out] at h;exact h) (by decide),fun _=>by rw [HE5.out];rfl,HT2.out⟩
  have hu200:u≤200:=by simp at h200;omega
  have HE5:=Qs (Fm l p last=if l.length - s<u then (10,B9,0) else (0,⟨tg,true,0,(l.drop s).take u⟩,s+u)) (by rw [HE4.out,γ (by simp at h200;omega)]);obtain⟨oa,cap,hv,hlc,_⟩:=HV2.out;subst hv;have c0:=HC2.out.c0;have c1:=HC2.out.c1;obtain⟨rm,hrm⟩: ∃ rm,rm=l.length - s:=⟨_,rfl⟩;rw [←hrm] at HE5;have hw1:IntKind.i64.wrap ((l.length:Int) - (s:Int))=(rm:Int):=by rw [ν];omega
  have hw2:IntKind.u64.wrap (rm:Int)=(rm:Int):=by rw [IntKind.wrap_u64,Int.emod_eq_of_lt (by omega) (by omega)]
  rcases hsh:decide (rm<u) with _|_
  case true=>
   have HE6:=Qs (Fm l p last=(10,B9,0)) (by rw [HE5.out,κ (by simpa using hsh)]);clear hrm;go_wp2_with fail
   go_quiet (fail)
   go_wp2;exact⟨rfl,fun h=>absurd (by rw [HE6.out] at h;exact h) (by decide),fun _=>by rw [HE6.out];rfl,HT2.out.trans (Ab.below (Ac _ _)) fun i hi=> .inl hi⟩
  have HE6:=Qs (Fm l p last=(0,⟨tg,true,0,(l.drop s).take u⟩,s+u)) (by rw [HE5.out,γ (by simpa using hsh)]);have hsu:s+u≤l.length:=by simp at hsh;omega
  have hw3:IntKind.i64.wrap ((s:Int)+(u:Int))=((s+u:Nat):Int):=by rw [ν];omega
  have hw4:IntKind.i64.wrap (u:Int)=(u:Int):=by rw [ν];omega
  have hcut: ∀ W,(Instr.sliceAt 39 (.slice oa l.length cap) (some (Vi Vk (s:Int))) (some (Vi Vk ((s+u:Nat):Int))) none).run prog W= .ok (sliced oa s (s+u) cap 1) W:=fun W=>by
   rw [Id];exact run_cut_lh oa l.length cap s (s+u) (by omega) (by omega) W
  obtain⟨dl,hdl⟩: ∃ dl,dl=(l.drop s).take u:=⟨_,rfl⟩;have HBD:=Qh (fun W (ht:Ab (fun k=>k=c) w W)=>(show B7 W (sliced oa s (s+u) cap 1) dl by
   have:=Jv (lo:=s) (hi:=s+u) (mx:=cap) HVW.out (by omega) hsu (by omega);rw [List.drop_take,Nat.add_sub_cancel_left] at this;rw [hdl];exact cu_row' HCW.out this ht))
  have hdll:dl.length≤1048576:=by rw [hdl,ω];omega
  rw [←hdl] at HE6;obtain⟨cv,hcv⟩: ∃ cv,cv=sliced oa s (s+u) cap 1:=⟨_,rfl⟩;rw [←hcv] at hcut HBD;clear hrm hdl hcv;obtain⟨su,hsu'⟩: ∃ su,su=s+u:=⟨_,rfl⟩;rw [←hsu'] at hcut HE6 hw3 hsu;clear hsu';have hw4':wrap64 (u:Int)=(u:Int):=by unfold wrap64;clear hw1 hw2 hw3 hw4;omega
  go_wp2_with fail
  go_quiet (fail)
  clear hw4' d1 hsh;go_wp2_with fail;generalize hWq:World.drewN _ _=wq;have HBQ:=Qs (Below w2.heap.size w2 wq) (by rw [←hWq];exact Ac _ _);clear hWq c0 c1;have HCq:=Qh (HC2.out.below HBQ.out);have HTq:=Qh (show Ab (fun k=>k=c) w wq from HT2.out.trans (Ab.below HBQ.out) fun i hi=> .inl hi);have HFq:=Qh (HF2.out.below HBQ.out);have HRq:=Qh (HR2.out.below HBQ.out);have hwl:w1.heap.size<wq.heap.size:=HFq.out.lt;have hwl2:w.heap.size<wq.heap.size:=HRq.out.lt;have hwl3:c<wq.heap.size:=HCq.out.lt;refine ε (S:=fun w'=>Ab (fun k=>k=w1.heap.size) wq w') (by kernel_rfl) (Ab.below (Ac wq 1)) (fun hHeld=> ?_);have FX1:=Qh (fun(wF:World) (hSw:(fun w'=>Ab (fun k=>k=w1.heap.size) wq w') wF)=>And.intro ((hSw.cell HCq.out.c0 (by simp only;omega))) ((hSw.cell HCq.out.c1 (by simp only;omega))));refine tf FX1 0 rfl ?_;refine tf FX1 1 rfl ?_;refine tf FX1 2 rfl ?_;refine tf FX1 3 rfl ?_;refine tf FX1 4 rfl ?_;refine tf FX1 5 rfl ?_;refine tf FX1 6 rfl ?_;refine tf FX1 7 rfl ?_;refine tf FX1 8 rfl ?_;refine tf FX1 9 rfl ?_;refine tf FX1 10 rfl ?_;refine tf FX1 11 rfl ?_;refine tf FX1 12 rfl ?_;refine tf FX1 13 rfl ?_;refine tf FX1 14 rfl ?_;clear FX1;refine tq 15 rfl ?_;have HFd:=Qh (HFq.out.below (show Below wq.heap.size wq (World.drew wq) from Ac wq 1));have HRd:=Qh (HRq.out.below (show Below wq.heap.size wq (World.drew wq) from Ac wq 1));have HCd:=Qh (HCq.out.below (show Below wq.heap.size wq (World.drew wq) from Ac wq 1));generalize World.drew _=wd at*;have HTd:=Qh (show Ab (fun k=>k=c) w wd from HTq.out.trans hHeld fun i hi=> .inr (by omega));refine Rd 16 rfl fun K hK=> ?_;go_simp;go_at_call 47;refine(clone_any dl cv _ (HBD.out _ HTd.out) (by omega)).mono ?_;rintro e w3 ⟨bv,rfl,hbo,hb3⟩;have HT3:=Qh (show Ab (fun k=>k=w1.heap.size) wq w3 from hHeld.trans (Ab.below hb3) fun i hi=> .inl hi);have HBV:=Qh (hbo.mono (show wq.heap.size≤_ from hHeld.size));obtain⟨ob,bcap,rfl,_,_⟩:=Aj hbo;have HF3:=Qh (HFd.out.below hb3);have HR3:=Qh (HRd.out.below hb3);have HC3:=Qh (HCd.out.below hb3);clear hb3 hHeld hbo HFd HRd HCd;go_wp2_with fail;refine hK.out _ _ HT3.out (fun hHeld=> ?_);clear hK K;have d3:=HF3.out.c3;have f3:=HF3.out.free 3;refine tq 17 rfl ?_;refine Rd 18 rfl fun K hK=> ?_;rw [κ (by kernel_rfl)];refine Fi 39 (.tmp 78) (.tmp 77) rfl w1.heap.size 3 (.slice ob dl.length bcap) (.slice none 0 0) (by kernel_rfl) rfl rfl rfl d3 f3 ?_;have HT5:=Qh (show Ab (fun k=>k=w1.heap.size) wq (w3.setCell ⟨w1.heap.size,3,none⟩ (.slice ob dl.length bcap)) from HT3.out.trans (Ab.setCell (S:=fun k=>k=w1.heap.size) _ ⟨w1.heap.size,3,none⟩ _ rfl) fun i hi=> .inl hi);refine hK.out _ _ HT5.out (fun _=> ?_);clear hK K hHeld;refine Ξ (by kernel_rfl) ?_ _;have HF5:=Qs (B0 (w3.setCell ⟨w1.heap.size,3,none⟩ (.slice ob dl.length bcap)) w1.heap.size ⟨tg,true,0,dl⟩ (.slice ob dl.length bcap)) (HF3.out.set rfl);have HR5:=Qs (B0 (w3.setCell ⟨w1.heap.size,3,none⟩ (.slice ob dl.length bcap)) w.heap.size B9 (.slice none 0 0)) (HR3.out.other (by omega));have HC5:=Qs (Ed (w3.setCell ⟨w1.heap.size,3,none⟩ (.slice ob dl.length bcap)) c (.slice oa l.length cap) s) (by
   have h:=HC3.out;unfold Ed at h ⊢;simp only [World.setCell];rw [Array.getElem?_modify,γ (fun e=>by omega)];exact h)
  have HO5:=Qs (Cw (w3.setCell ⟨w1.heap.size,3,none⟩ (.slice ob dl.length bcap)) wq.heap.size (.slice ob dl.length bcap) dl) (own_turnedB HBV.out (Ab.setCell (S:=fun k=>k=w1.heap.size) _ ⟨w1.heap.size,3,none⟩ _ rfl) fun k hk=>by omega);clear HF3 HR3 HC3 d3 f3 HT3 HBV;generalize World.setCell _ _ _=w5 at*;have c1:=HC5.out.c1;have f1:=HC5.out.free 1;have HF6:=Qs (B0 (w5.setCell ⟨c,1,none⟩ (Vi Vk (su:Int))) w1.heap.size ⟨tg,true,0,dl⟩ (.slice ob dl.length bcap)) (HF5.out.other (by omega));have HR6:=Qs (B0 (w5.setCell ⟨c,1,none⟩ (Vi Vk (su:Int))) w.heap.size B9 (.slice none 0 0)) (HR5.out.other (by omega));have HC6:=Qs (Ed (w5.setCell ⟨c,1,none⟩ (Vi Vk (su:Int))) c (.slice oa l.length cap) su) HC5.out.set;have HT6:=Qh (show Ab (fun k=>k=c) w (w5.setCell ⟨c,1,none⟩ (Vi Vk (su:Int))) from(HTq.out.trans HT5.out fun i hi=> .inr (by omega)).trans (Ab.setCell (S:=fun k=>k=c) _ ⟨c,1,none⟩ _ rfl) fun i hi=> .inl hi);clear hw1 hw2 hcut;go_wp2_with (first|(with_reducible refine Eb rfl (.tmp 6) rfl w1.heap.size ⟨tg,true,0,dl⟩ (.slice ob dl.length bcap) rfl HF6.out ?_)|(with_reducible refine C7 rfl (.tmp 4) (.tmp 88) rfl w.heap.size B9 ⟨tg,true,0,dl⟩ (.slice none 0 0) (.slice ob dl.length bcap) rfl rfl HR6.out rfl ?_));intro w7 hw7;have HR7:=Qs (B0 w7 w.heap.size ⟨tg,true,0,dl⟩ (.slice ob dl.length bcap)) (by rw [hw7.out];exact HR6.out.row);have HT7:=Qh (show Ab (fun k=>k=w.heap.size) (w5.setCell ⟨c,1,none⟩ (Vi Vk (su:Int))) w7 by rw [hw7.out];exact Ax _ _ _);have HC7:=Qs (Ed w7 c (.slice oa l.length cap) su) (by
   have h:=HC6.out;unfold Ed at h ⊢;rw [HT7.out.block _ (δ.1 h).1 (by omega)];exact h)
  have HO7:=Qs (Cw w7 wq.heap.size (.slice ob dl.length bcap) dl) (own_turnedB HO5.out ((Ab.setCell (S:=fun k=>k=c∨k=w.heap.size) _ ⟨c,1,none⟩ _ (.inl rfl)).trans HT7.out fun i hi=> .inl (.inr hi)) fun k hk=>by rcases hk with h|h<;>omega);clear hw7;go_wp2;exact π (v:=fdV ⟨tg,true,0,dl⟩ (.slice ob dl.length bcap)) (Le rfl _ _ w.heap.size _ _ rfl HR7.out) rfl ⟨fun _=>by rw [HE6.out];exact⟨_,rfl,HO7.out.mono (Nat.le_of_lt hwl2),HC7.out⟩,fun h=>absurd (by rw [HE6.out]) h,HT6.out.trans HT7.out fun i hi=> .inr (by omega)⟩
def Ly (xs:List (Ce×Value)):List Value:=xs.flatMap fun x=>(Gb x.1 x.2).toList
theorem fdCells_snoc (xs:List (Ce×Value)) (x:Ce×Value):Ly (xs++[x])=Ly xs++(Gb x.1 x.2).toList:=by simp [Ly]
theorem fdCells_at: ∀ (xs:List (Ce×Value)) (i:Nat) (x:Ce×Value),xs[i]? =some x→ ∀ (j:Nat) u,(Gb x.1 x.2)[j]? =some u→(Ly xs)[i*4+j]? =some u
 | [],i,x,h=>by simp at h
 |y::ys,0,x,h=>by
  intro j u hj
  simp at h;subst h
  have hl:j<4:=by have:=(δ.1 hj).1;simpa [Gb] using this
  unfold Ly
  rw [List.flatMap_cons,Nat.zero_mul,Nat.zero_add,List.getElem?_append_left (by simpa [Gb] using hl)]
  simpa using hj
 |y::ys,i+1,x,h=>by
  intro j u hj
  have:=fdCells_at ys i x (by simpa using h) j u hj
  unfold Ly at this ⊢
  rw [List.flatMap_cons,List.getElem?_append_right (by simp [Gb];omega)]
  rw [←this]
  congr 1
  simp [Gb];omega
def Jl (w:World) (B:Nat) (v:Value) (xs:List (Ce×Value)):Prop:=
 w.ownsRow B 257 4 v xs.length (Ly xs)∧ ∀ x∈xs,As (fun k=>B≤k∧k<w.heap.size∧v.ownBlock≠some k) w x.2 x.1.data
theorem fdOwn_nil (w:World) (B:Nat):Jl w B (.slice none 0 0) []:=⟨⟨rfl,.inl ⟨rfl,rfl⟩⟩,fun _ h=>by cases h⟩
theorem Jl.turned {xs:List (Ce×Value)} (h:Jl w B v xs) (ht:Ab S w w') (hS: ∀ k,S k→k<B∨w.heap.size≤k):Jl w' B v xs:=by
 refine⟨⟨h.1.1,?_⟩,fun x hx=>(As.turned' (h.2 x hx) ht (fun k hk hlt hs=>by have:=hS k hs;omega)).mono fun k hk=>⟨hk.1,Nat.lt_of_lt_of_le hk.2.1 ht.size,hk.2.2⟩⟩;rcases h.1.2 with hn|⟨g,cap,cur,rfl,hb1,hg,rest⟩
 ·exact .inl hn
 ·have hlt:=(δ.1 hg).1;exact .inr ⟨g,cap,cur,rfl,hb1,by rw [ht.block _ hlt (fun hs=>by have:=hS _ hs;omega)];exact hg,rest⟩
theorem Jl.below {xs:List (Ce×Value)} (h:Jl w B v xs) (hb:Below w.heap.size w w'):Jl w' B v xs:=
 h.turned (S:=fun _=>False) (Ab.below hb) (fun _ h=>h.elim)
def zeroFd:Value:= .agg #[Vi Vk 0,.bool false,.int .u64 0,.slice none 0 0]
theorem infoFd:(prog.info? 257).map (fun i=>(i.zero,i.size,i.bytes))=some (some zeroFd,4,48):=by kernel_rfl
theorem wpList_appFd (hgd:o.guard=none) (s y:Operand) (ho:o.op= .call {callee:= .builtin .append,args:= #[s,y],argTypes:= #[223,223]})  {xs:List (Ce×Value)} {p:Ce} {dv:Value}
  (hs:a.eval s=v) (hy:a.eval y= .slice (some ⟨w.heap.size,0,none⟩) 1 1) (hown:Jl w B v xs) (hB:B≤w.heap.size) (hd:As (fun k=>B≤k∧k<w.heap.size∧v.ownBlock≠some k) w dv p.data) (hl:xs.length+1≤1000000000)
  (h: ∀ v' w',Jl w' B v' (xs++[(p,dv)])→Below B w w'→Ab (fun k=>v.ownBlock=some k) w w'→v'.oneCell'=true→wpList prog ops Q rest (a.put o.dst v') w'):wpList prog ops Q (o::rest) a (w.alloc (.cells #[Vi Vk (p.tag:Int),.bool p.text,.int .u64 (p.num:Int),dv] 257)):=by
 obtain⟨i0,hi,hz0,hz1,hz2⟩:=info_parts infoFd;have hb:=Aa w (.cells #[Vi Vk (p.tag:Int),.bool p.text,.int .u64 (p.num:Int),dv] 257);have h1d:dv.oneCell'=true:=by obtain⟨_,_,e,_,_⟩:=hd;rw [e];rfl
 refine Em _ hgd s y 223 ho B 257 i0 zeroFd 4 48 underlying223 hi hz0 hz1 hz2 rfl (by decide) v xs.length (Ly xs) hs (A2 hown.1 hb) ⟨w.heap.size,0,none⟩ 1 1 (Gb p dv).toList hy rfl (fun j u hj=> ?_) (fun u hu=> ?_) (by unfold maxLen;omega) (by omega) (η hB hb.size) (by decide) ?_
 ·rw [Cr,Nat.zero_add,World.cell?_alloc_new];simpa [Gb] using hj
 ·simp [Gb] at hu;rcases hu with rfl|rfl|rfl|rfl
  ·rfl
  ·rfl
  ·rfl
  ·exact h1d
 ·intro v' w' hown' hg hnew;have hb2:=Cm (A2 hown.1 hb) (η hB hb.size) hg;have hrow: ∀ (x:Value) (l:List UInt8),As (fun k=>B≤k∧k<w.heap.size∧v.ownBlock≠some k) w x l→As (fun k=>B≤k∧k<w'.heap.size∧v'.ownBlock≠some k) w' x l:=fun x l hx=>by
   obtain⟨oa,cap,e1,e2,e3⟩:=hx.below hb;refine⟨oa,cap,e1,e2,fun hn=> ?_⟩;obtain⟨b,off,e4,ha,hc⟩:=e3 hn;refine⟨b,off,e4,⟨ha.1,Nat.lt_of_lt_of_le ha.2.1 (η hb.size hg.size),fun e=> ?_⟩,fun i u hu=>hg.cell (hc i u hu) fun e=>ha.2.2 e.symm⟩;have:=ha.2.1;rcases hnew with h|h
   ·rw [h] at e;exact ha.2.2 e
   ·rw [h] at e;have e':=φ e;have:=hb.size;omega
  have hone:v'.oneCell'=true:=by obtain⟨_,_,e,_⟩:=Aj hown';rw [e];rfl
  refine h v' w' ⟨?_,fun x hx=> ?_⟩ ((hb.mono hB).trans hb2) ⟨hg.os.trans hb.os,hg.tape.trans hb.tape,hg.output.trans hb.output,η hb.size hg.size,fun k hk hne=> ?_⟩ hone
  ·rw [ζ,fdCells_snoc];exact hown'
  ·rcases List.mem_append.1 hx with hx|hx
   ·exact hrow _ _ (hown.2 x hx)
   ·simp at hx;rw [hx];exact hrow _ _ hd
  ·rw [hg.block k (Nat.lt_of_lt_of_le hk hb.size) (fun e=>hne e.symm)];exact hb.block k hk
theorem tlvCatch_panicking (a b:Nat) (n:Int) (va vb:Value) (older:List PanicEntry) (w:World) (ha:w.cell? ⟨a,0,none⟩=some va) (hb:w.cell? ⟨b,0,none⟩=some vb) (fa:w.frozen? ⟨a,0,none⟩=false) (fb:w.frozen? ⟨b,0,none⟩=false) (hab: ¬ a=b):
  CallsD prog 182 #[.pointer (some ⟨a,0,none⟩),.pointer (some ⟨b,0,none⟩)] (.panicking ({v:= .iface 28 (Vi Vk n),recovered:=false}::older)) w fun e u' w'=>
   e= .returned (.tuple #[])∧u'= .panicking ({v:= .iface 28 (Vi Vk n),recovered:=true}::older)∧w'=(w.setCell ⟨a,0,none⟩ (.slice none 0 0)).setCell ⟨b,0,none⟩ (Vi Vk n):=by
 have hne: ∀ W,(binOp .neq 20 (.iface 28 (Vi Vk n)) .nilIface).run prog W= .ok (.bool true) W:=fun W=>by rfl
 have hta: ∀ W,(Instr.typeAssert (.iface 28 (Vi Vk n)) 20 28 true).run prog W= .ok (.tuple #[Vi Vk n,.bool true]) W:=fun W=>by
  simp [Instr.typeAssert,run_underlying underlying28,go_sem,Result.andThen]
 refine callsD_of_wpS func182 rfl fun c₀ cs hu=> ?_;apply wpS_seq;apply wpS_region;simp [wpOpsS,go_sem,recoverD,hu,ntmps182,Exit.thenS];refine wpS_of_wp ?_;simp only [Array.replicate_succ,Array.replicate_zero,List.push_toArray,List.nil_append,List.cons_append];go_wp2;simp [bodyPostS,results,results182,go_sem]
theorem tlvCatch_idle (a b:Nat) (w:World):
  CallsD prog 182 #[.pointer (some ⟨a,0,none⟩),.pointer (some ⟨b,0,none⟩)] .returning w fun e u' w'=>e= .returned (.tuple #[])∧u'= .returning∧w'=w:=by
 refine callsD_of_wpS func182 rfl fun c₀ cs hu=> ?_;apply wpS_seq;apply wpS_region;simp [wpOpsS,go_sem,recoverD,hu,ntmps182,Exit.thenS];refine wpS_of_wp ?_;simp only [Array.replicate_succ,Array.replicate_zero,List.push_toArray,List.nil_append,List.cons_append];go_wp2;cases c₀;simp_all [bodyPostS,results,results182,go_sem]
def tlvGo (b:List UInt8):Nat→Nat→Nat→List Ce→Int×List Ce
 |0,_,_,fs=>(0,fs)
 |n+1,p,last,fs=>if p<b.length then (if (Fm b p last).1=0 then tlvGo b n (Fm b p last).2.2 (Fm b p last).2.1.tag (fs++[(Fm b p last).2.1]) else ((Fm b p last).1,[])) else (0,fs)
def tlvDec (b:List UInt8):Int×List Ce:=if 1024<b.length then (24,[]) else tlvGo b (b.length+1) 0 0 []
theorem tlvGo_end {b:List UInt8} {n p last:Nat} {fs:List Ce} (h: ¬ p<b.length):tlvGo b n p last fs=(0,fs):=by
 cases n with
 |zero=>rfl
 |succ n=>rw [tlvGo,γ h]
theorem tlvGo_bad {b:List UInt8} {n p last:Nat} {fs:List Ce} (h:p<b.length) (h2: ¬ (Fm b p last).1=0):tlvGo b (n+1) p last fs=((Fm b p last).1,[]):=by rw [tlvGo,κ h,γ h2]
theorem tlvGo_ok {b:List UInt8} {n p last:Nat} {fs:List Ce} (h:p<b.length) (h2:(Fm b p last).1=0):tlvGo b (n+1) p last fs=tlvGo b n (Fm b p last).2.2 (Fm b p last).2.1.tag (fs++[(Fm b p last).2.1]):=by rw [tlvGo,κ h,κ h2]
theorem fldV_ok {b:List UInt8} {p last:Nat} (h:(Fm b p last).1=0):p<(Fm b p last).2.2∧(Fm b p last).2.2≤b.length∧last<(Fm b p last).2.1.tag∧(Fm b p last).2.1.tag≤31:=by
 have h1:= @Jw (b.drop p);rw [Λ] at h1;have h2:= @Jw (b.drop (p+(A3 (b.drop p)).2.1));rw [Λ] at h2;unfold Fm at h ⊢;dsimp only at h ⊢;by_cases c1:(A3 (b.drop p)).2.2=0
 ·rw [γ (fun h=>h c1)] at h ⊢;have h1':=h1 c1;by_cases c2:63<(A3 (b.drop p)).1∨(A3 (b.drop p)).1 / 2=0
  ·rw [κ c2] at h;cases h
  ·rw [γ c2] at h ⊢;by_cases c3:(A3 (b.drop p)).1 / 2≤last
   ·rw [κ c3] at h;cases h
   ·rw [γ c3] at h ⊢;by_cases c4:(A3 (b.drop (p+(A3 (b.drop p)).2.1))).2.2=0
    ·rw [γ (fun h=>h c4)] at h ⊢;have h2':=h2 c4;by_cases c5:(A3 (b.drop (p+(A3 (b.drop p)).2.1))).1=0
     ·rw [κ c5] at h;cases h
     ·rw [γ c5] at h ⊢;by_cases c6:(A3 (b.drop p)).1 % 2=0
      ·rw [κ c6];dsimp only;omega
      ·rw [γ c6] at h ⊢;by_cases c7:200<(A3 (b.drop (p+(A3 (b.drop p)).2.1))).1
       ·rw [κ c7] at h;cases h
       ·rw [γ c7] at h ⊢;by_cases c8:b.length - (p+(A3 (b.drop p)).2.1+(A3 (b.drop (p+(A3 (b.drop p)).2.1))).2.1)<(A3 (b.drop (p+(A3 (b.drop p)).2.1))).1
        ·rw [κ c8] at h;cases h
        ·rw [γ c8];dsimp only;omega
    ·rw [κ c4] at h;exact absurd h c4
 ·rw [κ c1] at h;exact absurd h c1
def TlvPost (w:World) (r:Int×List Ce) (e:Ending) (w':World):Prop:= ∃ (v:Value) (i:Int) (xs:List (Ce×Value)),e= .returned (.tuple #[v,Vi Vk i,Vi Vk r.1])∧xs.map (·.1)=r.2∧Jl w' w.heap.size v xs∧Below w.heap.size w w'
theorem K2 {x:Value} {T:TypeId} (h:w.heap[g]? =some (.cells #[x] T (0,0))):w.cell? ⟨g,0,none⟩=some x:=by simp [World.cell?,h]
theorem free_blk {x:Value} {T:TypeId} (h:w.heap[g]? =some (.cells #[x] T (0,0))):w.frozen? ⟨g,0,none⟩=false:=by simp [World.frozen?,h]
theorem set_blk {x y:Value} {T:TypeId} (h:w.heap[g]? =some (.cells #[x] T (0,0))):(w.setCell ⟨g,0,none⟩ y).heap[g]? =some (.cells #[y] T (0,0)):=by
 simp only [World.setCell];rw [Array.getElem?_modify];simp [h]
theorem Mj {o:Obj} {y:Value} (h:w.heap[g]? =some o) (hn: ¬ g=k):(w.setCell ⟨k,j,none⟩ y).heap[g]? =some o:=by
 simp only [World.setCell];rw [Array.getElem?_modify,γ (fun e=>hn e.symm)];exact h
theorem load_fs {a:Addr} {x:Value} (h:w.cell? a=some x):(loadVar 223 a).run prog w= .ok x w:=by
 simp [loadVar,isAgg,underlying,underlying223,h,Result.andThen]
theorem load_er {a:Addr} {x:Value} (h:w.cell? a=some x):(loadVar 28 a).run prog w= .ok x w:=by
 simp [loadVar,isAgg,underlying,underlying28,h,Result.andThen]
theorem results_tl {p r:Tmp} (h:fn.results= #[.cell p 223,.tmp q,.cell r 28]) (tmps:Array Value) (w:World) (g k:Nat) (v x y:Value)
  (hp:tmps.getD p undef= .pointer (some ⟨g,0,none⟩)) (hq:tmps.getD q undef=x) (hr:tmps.getD r undef= .pointer (some ⟨k,0,none⟩)) (hg:w.heap[g]? =some (.cells #[v] 223 (0,0))) (hk:w.heap[k]? =some (.cells #[y] 28 (0,0))):
  (results fn tmps).run prog w= .ok (.tuple #[v,x,y]) w:=by
 have h1:=load_fs (K2 hg);have h2:=load_er (K2 hk);have hp':tmps[p]?.getD undef= .pointer (some ⟨g,0,none⟩):=by simpa using hp
 have hq':tmps[q]?.getD undef=x:=by simpa using hq
 have hr':tmps[r]?.getD undef= .pointer (some ⟨k,0,none⟩):=by simpa using hr
 simp [results,h,hp',hq',hr',asAddr,h1,h2]
theorem tlvDecode_any (l:List UInt8) (v:Value) (w:World) (hv:B7 w v l) (hl:l.length≤9223372036854775807):
  Calls prog 152 #[v] w (TlvPost w (tlvDec l)):=by
 have HV:=Qh hv;have hmf: ∀ (fn:Fn) (first cap:Array Value) (w:World),(Instr.makeFunc fn first cap).run prog w= .ok (.func fn first cap) w:=fun _ _ _ _=>rfl;have HBA:=Qh (Below.next (Aa w (.cells #[.slice none 0 0] 223)) (Aa _ (.cells #[Vi Vk 0] 28)));obtain⟨oa,cap,rfl,hlc,_⟩:=hv;rcases hb:decide ((1024:Int)<(l.length:Int)) with _|_
 ·have HE:=Qs (tlvDec l=tlvGo l (l.length+1) 0 0 []) (by unfold tlvDec;rw [γ (by simp at hb;omega)]);have hl2:l.length≤1024:=by simp at hb;omega
  have HBZ:=Qh (Below.next HBA.out (Aa _ (.cells #[.slice oa l.length cap,Vi Vk 0] 298)));have HV3:=Qh (HV.out.below HBZ.out);have HC3:=Qs (Ed (((w.alloc (.cells #[.slice none 0 0] 223)).alloc (.cells #[Vi Vk 0] 28)).alloc (.cells #[.slice oa l.length cap,Vi Vk 0] 298)) (w.heap.size+2) (.slice oa l.length cap) 0) (by
   have h:=σ ((w.alloc (.cells #[.slice none 0 0] 223)).alloc (.cells #[Vi Vk 0] 28)) (.cells #[.slice oa l.length cap,Vi Vk 0] 298);simp only [World.size_alloc] at h;exact h)
  have HX3:=Qs ((((w.alloc (.cells #[.slice none 0 0] 223)).alloc (.cells #[Vi Vk 0] 28)).alloc (.cells #[.slice oa l.length cap,Vi Vk 0] 298)).heap[w.heap.size]? =some (.cells #[.slice none 0 0] 223 (0,0))) (by
   have h:=σ w (.cells #[.slice none 0 0] 223);exact((Below.next (Aa _ (.cells #[Vi Vk 0] 28)) (Aa _ (.cells #[.slice oa l.length cap,Vi Vk 0] 298))).block _ (δ.1 h).1).trans h)
  have HY3:=Qs ((((w.alloc (.cells #[.slice none 0 0] 223)).alloc (.cells #[Vi Vk 0] 28)).alloc (.cells #[.slice oa l.length cap,Vi Vk 0] 298)).heap[w.heap.size+1]? =some (.cells #[Vi Vk 0] 28 (0,0))) (by
   have h:=σ (w.alloc (.cells #[.slice none 0 0] 223)) (.cells #[Vi Vk 0] 28);rw [World.size_alloc] at h;exact((Aa _ (.cells #[.slice oa l.length cap,Vi Vk 0] 298)).block _ (δ.1 h).1).trans h)
  go_enter_defers func152,ntmps152
  clear hb HBA;go_wp2_with fail;generalize (((w.alloc (.cells #[.slice none 0 0] 223)).alloc (.cells #[Vi Vk 0] 28)).alloc (.cells #[.slice oa l.length cap,Vi Vk 0] 298))=w3 at*
  go_loopw [3,6] (fun av lv wr=> ∃ (n p last:Nat) (i:Int) (xs:List (Ce×Value)) (sv:Value),p≤l.length∧l.length<n+p∧av= Vi Vk i∧lv= Vi Vk (last:Int)∧xs.length≤p∧last≤31∧
   Hid (tlvDec l=tlvGo l n p last (xs.map (·.1)))∧Hid (Ed wr (w.heap.size+2) (.slice oa l.length cap) p)∧Hid (wr.heap[w.heap.size]? =some (.cells #[sv] 223 (0,0)))∧Hid (wr.heap[w.heap.size+1]? =some (.cells #[Vi Vk 0] 28 (0,0)))∧
   Hid (Jl wr (w.heap.size+3) sv xs)∧Hid (B7 wr (.slice oa l.length cap) l)∧Hid (Below w.heap.size w wr)) (fun _ _ wr=>l.length - (intOf ((wr.cell? ⟨w.heap.size+2,1,none⟩).getD undef)).toNat)
  case atStart=>exact⟨l.length+1,0,0,0,[],.slice none 0 0,θ _,by omega,rfl,rfl,θ _,by omega,Qh HE.out,Qh HC3.out,Qh HX3.out,Qh HY3.out,Qh (fdOwn_nil _ _),Qh HV3.out,Qh HBZ.out⟩
  case round=>
   obtain⟨n,p,last,i,xs,sv,hp,hn,rfl,rfl,hxp,hlast,HR,HC,HX,HY,HO,HBV,HB⟩:=hrel;have c1:=HC.out.c1;have hsw:w.heap.size+3≤wr.heap.size:=by have:=HC.out.lt;omega
   by_cases hlt:p<l.length
   ·have q1:(p:Int)<(l.length:Int):=by omega
    obtain⟨n',rfl⟩: ∃ n',n=n'+1:=⟨n - 1,by omega⟩;have HFD:=Qh (cuField_any l (.slice oa l.length cap) wr (w.heap.size+2) p last HC.out HBV.out hp (by omega));have HFO:=Qh (@fldV_ok l p last);have HRB:=Qh (fun h=>HR.out.trans (@tlvGo_bad l n' p last (xs.map (·.1)) hlt h));have HRO:=Qh (fun h=>HR.out.trans (@tlvGo_ok l n' p last (xs.map (·.1)) hlt h));obtain⟨r,hr⟩: ∃ r,r=Fm l p last:=⟨_,rfl⟩;rw [←hr] at HFD HFO HRB HRO;clear hr HR hlt;obtain⟨e0,fd,np⟩:=r;unfold FldPost at HFD;dsimp only at HFD HFO HRB HRO;go_wp2_with fail;refine HFD.out.mono ?_;rintro e w1 ⟨g1,g2,ht⟩;by_cases he:e0=0
    ·obtain⟨bv,rfl,hob,hc1⟩:=g1 he;have HR1:=Qh (HRO.out he);have hfo:=HFO.out he;have HC1:=Qh hc1;have HX1:=Qh ((ht.block _ (δ.1 HX.out).1 (by omega)).trans HX.out);have HY1:=Qh ((ht.block _ (δ.1 HY.out).1 (by omega)).trans HY.out);have HO1:=Qh (HO.out.turned ht (fun k hk=> .inl (by omega)));have HBV1:=Qh (cu_row HC.out HBV.out ht);have HB1:=Qh (Ba HB.out ht (fun k hk=>by omega) (η (Nat.le_add_right _ _) hsw));have h1b:bv.oneCell'=true:=by obtain⟨_,_,e,_⟩:=Aj hob;rw [e];rfl
     have HD1:=Qh (show As (fun k=>w.heap.size+3≤k∧k<w1.heap.size∧sv.ownBlock≠some k) w1 bv fd.data from(F8 (A:=fun k=>wr.heap.size≤k) hob (fun k hk=>hk)).low.mono fun k hk=>⟨by omega,hk.2,fun e=>by have:=(HO.out.1.lt k e).2;omega⟩);have hsw1:wr.heap.size≤w1.heap.size:=ht.size;have HMS:=Qh c1;clear g1 g2 ht hob hc1 HC HX HY HO HBV HB he HRB HRO HFO HFD c1;have HFZ:=Qs (B0 (w1.alloc (.cells #[Vi Vk 0,.bool false,.int .u64 0,.slice none 0 0] 257)) w1.heap.size B9 (.slice none 0 0)) (Eu w1 B9 (.slice none 0 0));have HBZ:=Qh (Aa w1 (.cells #[Vi Vk 0,.bool false,.int .u64 0,.slice none 0 0] 257));go_wp2_with (with_reducible refine C7 rfl (.tmp 7) (.tmp 28) rfl w1.heap.size B9 fd (.slice none 0 0) bv rfl rfl HFZ.out h1b ?_);intro w2 hw2;have HF2:=Qs (B0 w2 w1.heap.size fd bv) (by rw [hw2.out];exact HFZ.out.row);have HB2:=Qs (Below w1.heap.size w1 w2) (by rw [hw2.out];exact Bw HBZ.out (μ _) _);clear hw2 HFZ HBZ;have HC2:=Qh (HC1.out.below HB2.out);have HX2:=Qh ((HB2.out.block _ (δ.1 HX1.out).1).trans HX1.out);have HY2:=Qh ((HB2.out.block _ (δ.1 HY1.out).1).trans HY1.out);have HO2:=Qh (HO1.out.below HB2.out);have HBV2:=Qh (HBV1.out.below HB2.out);have HD2:=Qh ((HD1.out.below HB2.out).mono (A':=fun k=>w.heap.size+3≤k∧k<w2.heap.size∧sv.ownBlock≠some k) fun k hk=>⟨hk.1,Nat.lt_of_lt_of_le hk.2.1 HB2.out.size,hk.2.2⟩);have HBW2:=Qh (Below.next HB1.out HB2.out);have hsw2:w.heap.size+3≤w2.heap.size:=by have:=HB2.out.size;omega
     have x2:=K2 HX2.out;have d0:=HF2.out.c0;clear HC1 HX1 HY1 HO1 HBV1 HD1 HB1 HB2;go_wp2_with (first|(with_reducible refine Eb rfl (.tmp 7) rfl w1.heap.size fd bv rfl HF2.out ?_)|(refine wpList_appFd (p:=fd) (dv:=bv) rfl (.tmp 31) (.tmp 33) rfl rfl rfl HO2.out hsw2 HD2.out (by omega) ?_));intro v' w3' hown hbel htur h1v;have HO3:=Qh hown;have HX3':=Qh ((hbel.block _ (by omega)).trans HX2.out);have HY3':=Qh ((hbel.block _ (by omega)).trans HY2.out);have HC4:=Qs (Ed (w3'.setCell ⟨w.heap.size,0,none⟩ v') (w.heap.size+2) (.slice oa l.length cap) np) (Mj ((hbel.block _ (by omega)).trans HC2.out) (by omega));have HX4:=Qh (set_blk (y:=v') HX3'.out);have HY4:=Qh (Mj (k:=w.heap.size) (j:=0) (y:=v') HY3'.out (by omega));have HTS:=Qh (Ab.setCell (S:=fun k=>k=w.heap.size) w3' ⟨w.heap.size,0,none⟩ v' rfl);have HO4:=Qh (hown.turned HTS.out (fun k hk=> .inl (by omega)));have HB4:=Qs (Below w.heap.size w (w3'.setCell ⟨w.heap.size,0,none⟩ v')) (Ba (HBW2.out.trans (hbel.mono (by omega))) HTS.out (fun k hk=>by omega) (by have:=hbel.size;omega));have HBV4:=Qh (HV.out.below HB4.out);have x3:=K2 HX3'.out;have f3:=free_blk HX3'.out;clear hown hbel htur x2 d0 HC2 HX2 HY2 HO2 HBV2 HD2 HBW2;go_wp2_with (with_reducible refine Cc rfl 223 (.tmp 2) (.tmp 34) rfl w.heap.size 0 v' sv (by kernel_rfl) h1v rfl rfl x3 f3 ?_);intro W4 hW4;obtain rfl:=hW4.out;have HMZ:=Qh HC4.out.c1;generalize w3'.setCell ⟨w.heap.size,0,none⟩ v'=W4 at*;clear x3 f3;go_wp2;go_roundw
     case rel=>exact⟨n',np,fd.tag,(p:Int),xs++[(fd,bv)],v',by omega,by omega,rfl,rfl,by simp;omega,by omega,Qh (by rw [HR1.out];simp),HC4,HX4,HY4,HO4,HBV4,HB4⟩
     case measure=>rw [HMS.out,HMZ.out];simp [intOf];omega
    ·obtain rfl:=g2 he;have hE:=HRB.out he;have HX1:=(ht.block _ (δ.1 HX.out).1 (by omega)).trans HX.out;have HY1:=(ht.block _ (δ.1 HY.out).1 (by omega)).trans HY.out;have HB1:=Ba HB.out ht (fun k hk=>by omega) (η (Nat.le_add_right _ _) hsw);have HE1:=Qh hE;have HX2:=Qh HX1;have HY2:=Qh HY1;have HB2:=Qh HB1;clear g1 g2 hE HX1 HY1 HB1 he;go_wp2;refine leaves_cons (f:=182) (args:= #[.pointer (some ⟨w.heap.size,0,none⟩),.pointer (some ⟨w.heap.size+1,0,none⟩)]) (by simp) (by simp [go_sem]) ?_;refine(tlvCatch_panicking w.heap.size (w.heap.size+1) e0 sv (Vi Vk 0) [] w1 (K2 HX2.out) (K2 HY2.out) (free_blk HX2.out) (free_blk HY2.out) (by omega)).mono ?_;rintro e u' w'' ⟨rfl,rfl,rfl⟩;refine⟨.tuple #[.slice none 0 0,Vi Vk (p:Int),Vi Vk e0],results_tl rfl _ _ w.heap.size (w.heap.size+1) _ _ _ rfl rfl rfl (Mj (set_blk HX2.out) (by omega)) (set_blk (Mj HY2.out (by omega))),.slice none 0 0,(p:Int),[],by rw [HE1.out],by rw [HE1.out];rfl,fdOwn_nil _ _,?_⟩;exact Ba HB2.out ((Ab.setCell (S:=fun k=>k=w.heap.size∨k=w.heap.size+1) _ ⟨w.heap.size,0,none⟩ _ (.inl rfl)).trans (Ab.setCell (S:=fun k=>k=w.heap.size∨k=w.heap.size+1) _ ⟨w.heap.size+1,0,none⟩ _ (.inr rfl)) fun i hi=> .inl hi) (fun k hk=>by omega) (by have:=ht.size;omega)
   ·obtain rfl:p=l.length:=by omega
    have HRE:=Qh (HR.out.trans (tlvGo_end (Nat.lt_irrefl _)));have x0:=K2 HX.out;have y0:=K2 HY.out;have fx:=free_blk HX.out;have fy:=free_blk HY.out;have h1s:sv.oneCell'=true:=by obtain⟨_,_,e,_⟩:=Aj HO.out.1;rw [e];rfl
    have HX2:=Qh (set_blk (y:=sv) HX.out);have HY2:=Qh (Mj (k:=w.heap.size) (j:=0) (y:=sv) HY.out (by omega));have HX3:=Qh (Mj (k:=w.heap.size+1) (j:=0) (y:= Vi Vk 0) HX2.out (by omega));have HY3:=Qh (set_blk (y:= Vi Vk 0) HY2.out);clear HR hlt hn;go_wp2_with (with_reducible refine Cc rfl 223 (.tmp 2) (.tmp 35) rfl w.heap.size 0 sv sv (by kernel_rfl) h1s rfl rfl x0 fx ?_);intro W4 hW4;obtain rfl:=hW4.out;go_wp2;refine leaves_cons (f:=182) (args:= #[.pointer (some ⟨w.heap.size,0,none⟩),.pointer (some ⟨w.heap.size+1,0,none⟩)]) (by simp) (by simp [go_sem]) ?_;refine(tlvCatch_idle w.heap.size (w.heap.size+1) _).mono ?_;rintro e u' w'' ⟨rfl,rfl,rfl⟩;have HTS:=(Ab.setCell (S:=fun k=>k=w.heap.size∨k=w.heap.size+1) wr ⟨w.heap.size,0,none⟩ sv (.inl rfl)).trans (Ab.setCell (S:=fun k=>k=w.heap.size∨k=w.heap.size+1) _ ⟨w.heap.size+1,0,none⟩ (Vi Vk 0) (.inr rfl)) fun i hi=> .inl hi;refine⟨.tuple #[sv,Vi Vk 0,Vi Vk 0],results_tl rfl _ _ w.heap.size (w.heap.size+1) _ _ _ rfl rfl rfl HX3.out HY3.out,sv,0,xs,by rw [HRE.out],by rw [HRE.out],?_,?_⟩
    ·have h:=HO.out.turned HTS (fun k hk=> .inl (by omega));exact⟨Oj h.1 (by omega),fun x hx=>(h.2 x hx).mono fun k hk=>⟨by omega,hk.2⟩⟩
    ·exact Ba HB.out HTS (fun k hk=>by omega) (by omega)
 ·have HE:=Qs (tlvDec l=(24,[])) (by unfold tlvDec;rw [κ (by simp at hb;omega)])
  go_enter_defers func152,ntmps152
  go_wp2;have hx:=σ w (.cells #[.slice none 0 0] 223);have hy:=σ (w.alloc (.cells #[.slice none 0 0] 223)) (.cells #[Vi Vk 24] 28);rw [World.size_alloc] at hy;refine⟨.tuple #[.slice none 0 0,Vi Vk 0,Vi Vk 24],results_tl rfl _ _ w.heap.size (w.heap.size+1) _ _ _ rfl rfl rfl (((Aa _ _).block _ (δ.1 hx).1).trans hx) hy,.slice none 0 0,0,[],by rw [HE.out],by rw [HE.out];rfl,fdOwn_nil _ _,Below.next (Aa _ _) (Aa _ _)⟩
section
open Go.RowKit Go.Maps
def Nm (v:Value):Option (DataW Value×List MemPlace):=some (.held v,[])
def Ez (k:Int) (x:Ce×Value):Bool:=(x.1.tag:Int)==k
structure FdD (D:DataW Value) (xs:List (Ce×Value)):Prop where
 tidy:Tidy D
 size:Maps.size D=xs.length
 has: ∀ k:Int,Maps.has D (.int .i64 k)=xs.any (Ez k)
 at_: ∀ (k:Int) z,D.atKey (.int .i64 k) z=match xs.find? (Ez k) with|some x=> .held (fdV x.1 x.2)|none=>z
theorem fdD_nil:FdD (.map []) []:=⟨tidy_empty,rfl,fun _=>rfl,fun _ _=>rfl⟩
theorem FdD.put {xs:List (Ce×Value)} (h:FdD D xs) (f:Ce) (bv:Value) (hn: ∀ x∈xs,x.1.tag≠f.tag):FdD (D.put (.int .i64 (f.tag:Int)) (.held (fdV f bv))) (xs++[(f,bv)]):=by
 have hh:Maps.has D (.int .i64 (f.tag:Int))=false:=by
  rw [h.has,List.any_eq_false];intro x hx;unfold Ez;have:=hn x hx;simp;omega
 refine⟨h.tidy.put (by trivial) _,?_,fun k=> ?_,fun k z=> ?_⟩
 ·rw [size_put h.tidy,hh];simp [h.size]
 ·by_cases hk:k=(f.tag:Int)
  ·subst hk;rw [has_put_same h.tidy.isMap (by trivial),List.any_append];simp [Ez]
  ·rw [has_put_other (by intro e;injection e with _ e;exact hk e),h.has,List.any_append];have e:(([(f,bv)]:List (Ce×Value)).any (Ez k))=false:=by simp [Ez];exact fun e=>hk e.symm
   rw [e,Bool.or_false]
 ·by_cases hk:k=(f.tag:Int)
  ·subst hk;rw [atKey_put_same h.tidy.isMap (by trivial),List.find?_append];have:xs.find? (Ez (f.tag:Int))=none:=List.find?_eq_none.2 fun x hx=>by
    have:=hn x hx;unfold Ez;simp;omega
   rw [this];simp [Ez]
  ·rw [atKey_put_other (by intro e;injection e with _ e;exact hk e),h.at_,List.find?_append];have: [(f,bv)].find? (Ez k)=none:=List.find?_eq_none.2 fun x hx=>by
    simp at hx;subst hx;unfold Ez;simp;exact fun e=>hk e.symm
   rw [this];simp
def Iv (k:Int) (xs:List (Ce×Value)):List (Ce×Value):=xs.filter fun x=> !Ez k x
theorem any_rest (k k':Int) (xs:List (Ce×Value)):(Iv k xs).any (Ez k')=(xs.any (Ez k')&& !(k'==k)):=by
 unfold Iv;rw [List.any_filter];by_cases hk:k'=k
 ·subst hk;simp
 ·have e:(fun x:Ce×Value=>(!Ez k x&&Ez k' x))=Ez k':=by
   funext x;unfold Ez;by_cases h1:(x.1.tag:Int)=k'
   ·have: ¬ (x.1.tag:Int)=k:=by omega
    simp [h1,hk]
   ·simp [h1]
  rw [e];simp [hk]
theorem find_rest_ne {k k':Int} (h:k'≠k) (xs:List (Ce×Value)):(Iv k xs).find? (Ez k')=xs.find? (Ez k'):=by
 unfold Iv;rw [List.find?_filter];congr 1;funext x;unfold Ez;by_cases h1:(x.1.tag:Int)=k'
 ·have: ¬ (x.1.tag:Int)=k:=by omega
  simp [h1,h]
 ·simp [h1]
theorem find_rest_same (k:Int) (xs:List (Ce×Value)):(Iv k xs).find? (Ez k)=none:=by
 unfold Iv;rw [List.find?_filter];refine List.find?_eq_none.2 fun x _=> ?_;simp
theorem FdD.del {D:DataW Value} {xs:List (Ce×Value)} (h:FdD D xs) (k:Int) (ht:xs.Pairwise fun a b=>a.1.tag<b.1.tag):FdD (D.del (.int .i64 k)) (Iv k xs):=by
 refine⟨h.tidy.del _,?_,fun k'=> ?_,fun k' z=> ?_⟩
 ·have h1:=size_del (k:= .int .i64 k) h.tidy;rw [h.has,h.size] at h1;have h2:(Iv k xs).length+(if xs.any (Ez k) then 1 else 0)=xs.length:=by
   clear h1 h;unfold Iv
   induction xs with
   |nil=>rfl
   |cons x xs ih=>
    have ih:=ih (List.Pairwise.of_cons ht);have hx:=(List.pairwise_cons.1 ht).1;by_cases hk:Ez k x=true
    ·have hno:xs.any (Ez k)=false:=List.any_eq_false.2 fun y hy=>by
      have:=hx y hy;unfold Ez at hk ⊢;simp at hk ⊢;omega
     rw [hno] at ih;simp [hk] at ih ⊢;exact ih
    ·have hk':Ez k x=false:=by simpa using hk
     simp only [List.filter_cons,hk',Bool.not_false,if_true,List.any_cons,Bool.false_or,τ];omega
  omega
 ·rw [any_rest];by_cases hk:k'=k
  ·subst hk;rw [has_del_same];simp
  ·rw [has_del_other (by intro e;injection e with _ e;exact hk e),h.has];simp [hk]
 ·by_cases hk:k'=k
  ·subst hk;rw [atKey_del_same,find_rest_same]
  ·rw [atKey_del_other (by intro e;injection e with _ e;exact hk e),h.at_,find_rest_ne hk]
structure G8 (w:World) (r m:Nat) (bad:Int) (xs:List (Ce×Value)):Prop where
 blk:w.heap[r]? =some (.cells #[.map (some m),Vi Vk bad] 255 (0,0))
 map: ∃ D,w.ownsMap prog 3 Nm m 1000 D∧FdD D xs
 tags:xs.Pairwise fun a b=>a.1.tag<b.1.tag
 rows: ∀ x∈xs,As (fun k=>k≠r∧k≠m) w x.2 x.1.data
theorem G8.ne {xs:List (Ce×Value)} (h:G8 w r m bad xs):r≠m:=fun e=>by
 obtain⟨D,⟨es,clock,hb,_⟩,_⟩:=h.map
 have:=h.blk
 rw [e,hb] at this
 cases this
theorem G8.lt {xs:List (Ce×Value)} (h:G8 w r m bad xs):r<w.heap.size∧m<w.heap.size:=⟨(δ.1 h.blk).1,h.map.elim fun _ h=>h.1.lt⟩
theorem M1 {b n:Nat}  (h:w.ownsMap prog 3 Nm b n D) (hb:Below w.heap.size w w'):w'.ownsMap prog 3 Nm b n D:=by
 obtain⟨es,clock,hbb,r⟩:=h;exact⟨es,clock,(hb.block b (δ.1 hbb).1).trans hbb,r⟩
theorem G8.below {xs:List (Ce×Value)} (h:G8 w r m bad xs) (hb:Below w.heap.size w w'):G8 w' r m bad xs:=by
 obtain⟨D,h1,h2⟩:=h.map;exact⟨(hb.block _ h.lt.1).trans h.blk,⟨D,M1 h1 hb,h2⟩,h.tags,fun x hx=>(h.rows x hx).below hb⟩
theorem G8.c0 {xs:List (Ce×Value)} (h:G8 w r m bad xs):w.cell? ⟨r,0,none⟩=some (.map (some m)):=by simp [World.cell?,h.blk]
theorem G8.c1 {xs:List (Ce×Value)} (h:G8 w r m bad xs):w.cell? ⟨r,1,none⟩=some (Vi Vk bad):=by simp [World.cell?,h.blk]
theorem G8.free {xs:List (Ce×Value)} (h:G8 w r m bad xs) (j:Nat):w.frozen? ⟨r,j,none⟩=false:=by simp [World.frozen?,h.blk]
end
section
open Go.RowKit Go.Maps
theorem tlvGo_rise (b:List UInt8): ∀ (n p last:Nat) (fs:List Ce),fs.Pairwise (fun a b=>a.tag<b.tag)→(∀ f∈fs,f.tag≤last)→last≤31→(tlvGo b n p last fs).1=0→
  (tlvGo b n p last fs).2.Pairwise (fun a b=>a.tag<b.tag)∧ ∀ f∈(tlvGo b n p last fs).2,f.tag≤31
 |0,p,last,fs=>fun h1 h2 h3 _=>⟨h1,fun f hf=>η (h2 f hf) h3⟩
 |n+1,p,last,fs=>fun h1 h2 h3 h4=>by
  by_cases hp:p<b.length
  ·by_cases he:(Fm b p last).1=0
   ·rw [tlvGo_ok hp he] at h4 ⊢
    obtain⟨_,_,g1,g2⟩:=fldV_ok he
    refine tlvGo_rise b n _ _ _ ?_ ?_ g2 h4
    ·rw [List.pairwise_append]
     refine⟨h1,List.pairwise_singleton _ _,fun a ha c hc=> ?_⟩
     have:=h2 a ha
     simp at hc
     subst hc
     omega
    ·intro f hf
     rcases List.mem_append.1 hf with h|h
     ·have:=h2 f h;omega
     ·simp at h;subst h;exact μ _
   ·rw [tlvGo_bad hp he] at h4
    exact absurd h4 he
  ·rw [tlvGo_end hp]
   exact⟨h1,fun f hf=>η (h2 f hf) h3⟩
theorem tlvDec_rise {b:List UInt8} (h:(tlvDec b).1=0):(tlvDec b).2.Pairwise (fun a b=>a.tag<b.tag)∧ ∀ f∈(tlvDec b).2,f.tag≤31:=by
 unfold tlvDec at h ⊢;split at h
 ·cases h
 ·rename_i hc;rw [γ hc];exact tlvGo_rise b _ _ _ _ List.Pairwise.nil (fun f hf=>by cases hf) (by omega) h
theorem rise_len: ∀ (xs:List (Ce×Value)) (lo hi:Nat),xs.Pairwise (fun a b=>a.1.tag<b.1.tag)→(∀ x∈xs,lo≤x.1.tag∧x.1.tag≤hi)→lo≤hi+1→xs.length≤hi+1 - lo
 | [],_,_=>fun _ _ _=>θ _
 |x::xs,lo,hi=>fun h1 h2 h3=>by
  obtain⟨g1,g2⟩:=List.pairwise_cons.1 h1
  have hx:=h2 x List.mem_cons_self
  have:=rise_len xs (x.1.tag+1) hi g2 (fun y hy=>⟨g1 y hy,(h2 y (List.mem_cons_of_mem _ hy)).2⟩) (by omega)
  simp only [τ]
  omega
theorem wp_mapPut {n:Nat} {f:Ce}  (x y z:Operand) (hop:o.op=Op.mapUpdate 253 x y z)
  (hx:a.eval x= .map (some m)) (hy:a.eval y= .int .i64 (f.tag:Int)) (hz:a.eval z=fdV f bv) (hM:w.ownsMap prog 3 Nm m n D) (hn:n<1000) (hf:f.tag≤1000)
  (hK: ∀ w',w'.ownsMap prog 3 Nm m (n+1) (D.put (.int .i64 (f.tag:Int)) (.held (fdV f bv)))→w.grownBy w' (some m)→K (a.put o.dst undef) w'):o.wp prog a w K Q:=by
 obtain⟨w',hrun,h3,h4⟩:=hM.update (int_keyed underlying3) underlying253 (by unfold maxLen;omega) (keyOf_int_mk underlying3 (a:=(f.tag:Int)) (WalkArith.wf_i64 (by omega))) (val:=fdV f bv) (d:= .held (fdV f bv)) (ps:=[]) rfl;unfold Oper.wp;simp [execOp,hop,hx,hy,hz,hrun,Result.andThen];exact hK w' h3 h4
theorem Ot (hgd:o.guard=none) (x:Operand) (ho:o.op= .load 257 x)
  (b off:Nat) (f:Ce) (bv:Value) (hx:a.eval x= .pointer (some ⟨b,off,none⟩)) (hE:w.rangeAt b off (Gb f bv).toList)
  (h:wpList prog ops Q rest (a.put o.dst (fdV f bv)) w):wpList prog ops Q (o::rest) a w:=
 wpList_load_mid hgd 257 x ho b off hx (Gb f bv).toList _ hE underlying257 rfl fdInfo h
theorem Jl.at {xs:List (Ce×Value)} (h:Jl w B v xs) (hn:0<xs.length): ∃ g cap,v= .slice (some ⟨g,0,none⟩) xs.length cap∧xs.length≤cap∧ ∀ (i:Nat) x,xs[i]? =some x→w.rangeAt g (0+i*4) (Gb x.1 x.2).toList:=by
 obtain⟨g,cap,e,_,_,h1,_,h3⟩:=Dr h.1 hn;refine⟨g,cap,e,h1,fun i x hx j u hj=> ?_⟩;rw [Nat.zero_add];exact h3 _ _ (fdCells_at xs i x hx j u (by simpa using hj))
theorem Nj {xs:List (Ce×Value)} (h:Jl w B v xs): ∃ oa cap,v= .slice oa xs.length cap∧xs.length≤cap∧ ∀ (i:Nat) x,xs[i]? =some x→ ∃ b off,oa=some ⟨b,off,none⟩∧w.rangeAt b (off+i*4) (Gb x.1 x.2).toList:=by
 by_cases hn:xs=[]
 ·subst hn;obtain⟨oa,cap,e,h1,_⟩:=Aj h.1;exact⟨oa,cap,e,h1,fun i x hx=>by simp at hx⟩
 ·obtain⟨g,cap,e,h1,h2⟩:=h.at (Ψ.2 hn);exact⟨_,cap,e,h1,fun i x hx=>⟨g,0,rfl,h2 i x hx⟩⟩
def NewRdPost (w:World) (r:Int×List Ce) (e:Ending) (w':World):Prop:=
 (¬ r.1=0→e= .returned (.tuple #[.pointer none,Vi Vk r.1]))∧(r.1=0→ ∃ rb mb xs,e= .returned (.tuple #[.pointer (some ⟨rb,0,none⟩),Vi Vk 0])∧xs.map (·.1)=r.2∧G8 w' rb mb 0 xs∧w.heap.size≤rb∧w.heap.size≤mb)∧Below w.heap.size w w'
theorem newReader_any (l:List UInt8) (v:Value) (w:World) (hv:B7 w v l) (hl:l.length≤9223372036854775807):
  Calls prog 117 #[v] w (NewRdPost w (tlvDec l)):=by
 have HD:=Qh (tlvDecode_any l v w hv hl);have HRS:=Qh (@tlvDec_rise l);obtain⟨oa,cap,rfl,_,_⟩:=hv;obtain⟨r,hr⟩: ∃ r,r=tlvDec l:=⟨_,rfl⟩;rw [←hr] at HD HRS;rw [←hr];clear hr;obtain⟨e0,fs⟩:=r;unfold TlvPost at HD;dsimp only at HD HRS;go_enter func117,ntmps117;go_wp2_with fail;refine HD.out.mono ?_;rintro e w1 ⟨sv,i,xs,rfl,hxs,hown,hb1⟩;have HB1:=Qh hb1;have HO:=Qh hown;have HXS:=Qh hxs;obtain⟨os,scap,rfl,hsl,_⟩:=Nj hown;clear hb1 hown HD hxs;rcases he:(e0 != 0) with _|_
 case true=>
  have he0: ¬ e0=0:=by simpa using he
  have HE:=Qh he0;clear he0;go_wp2;go_ret2;exact⟨fun _=>rfl,fun h=>absurd h HE.out,HB1.out⟩
 have he0:e0=0:=by simpa using he
 have HE:=Qh he0;obtain⟨hr1,hr2⟩:=HRS.out he0;rw [←HXS.out,List.pairwise_map] at hr1;have HR1:=Qh hr1;have HR2:=Qh (fun x (hx:x∈xs)=>hr2 x.1 (by rw [←HXS.out];exact List.mem_map.2 ⟨x,hx,rfl⟩));have hxl:xs.length≤32:=rise_len xs 0 31 hr1 (fun x hx=>⟨θ _,HR2.out x hx⟩) (by omega);clear he0 hr1 hr2 HRS;have hmk: ∀ W:World,(Instr.makeMap 253 none).run prog W= .ok (.map (some W.heap.size)) (W.alloc (.map #[] 0)):=fun _=>rfl;have HM0:=Qh (World.ownsMap_made (H:=Value) w1 prog 3 Nm);have HB2:=Qh (Below.next (Aa w1 (.map #[] 0)) (Aa _ (.cells #[.map (some w1.heap.size),.int .i64 0] 255)));have HX2:=Qs (((w1.alloc (.map #[] 0)).alloc (.cells #[.map (some w1.heap.size),.int .i64 0] 255)).heap[w1.heap.size+1]? =some (.cells #[.map (some w1.heap.size),.int .i64 0] 255 (0,0))) (by
  have h:=σ (w1.alloc (.map #[] 0)) (.cells #[.map (some w1.heap.size),.int .i64 0] 255);rw [World.size_alloc] at h;exact h)
 have HM2:=Qh (M1 HM0.out (Aa _ (.cells #[.map (some w1.heap.size),.int .i64 0] 255)));have HSH:=Qh (Nj HO.out);go_wp2;generalize (w1.alloc (.map #[] 0)).alloc (.cells #[.map (some w1.heap.size),.int .i64 0] 255)=w2 at*;go_loopw [24] (fun iv wr=> ∃ (k:Nat) (D:DataW Value),k≤xs.length∧iv= .int .i64 (k:Int)∧Hid (wr.heap[w1.heap.size+1]? =some (.cells #[.map (some w1.heap.size),.int .i64 0] 255 (0,0)))∧Hid (wr.ownsMap prog 3 Nm w1.heap.size k D)∧Hid (FdD D (xs.take k))∧Hid (Below w1.heap.size w1 wr)) (fun iv _=>xs.length - (intOf iv).toNat)
 case atStart=>exact⟨0,.map [],θ _,rfl,HX2,HM2,Qh fdD_nil,HB2⟩
 case round=>
  obtain⟨k,D,hk,rfl,HX,HM,HF,HB⟩:=hrel;by_cases hlt:k<xs.length
  ·obtain⟨x,hx,htk,hxm⟩:=Pj xs k hlt;obtain⟨_,_,e2,_,hat⟩:=HSH.out;simp only [Value.slice.injEq,true_and] at e2;obtain⟨rfl,rfl⟩:=e2;obtain⟨b,off,rfl,hcell⟩:=hat k x hx;have q1:(k:Int)<(xs.length:Int):=by omega
   have HCE:=Qh (Bs hcell HB.out);have HTK:=Qh htk;have HNO:=Qh (fun y (hy:y∈xs.take k)=>(show y.1.tag≠x.1.tag by
    have h:=HR1.out;rw [←List.take_append_drop (k+1) xs,htk,List.append_assoc,List.pairwise_append] at h;have:=h.2.2 y hy x (by simp);omega))
   have hx31:=HR2.out x hxm;have h1v:x.2.oneCell'=true:=by obtain⟨_,_,e,_⟩:=HO.out.2 x hxm;rw [e];rfl
   have hk1:IntKind.i64.wrap ((k:Int)+1)=(k:Int)+1:=by rw [ν];omega
   have HFZ:=Qs (B0 (wr.alloc (.cells #[.int .i64 0,.bool false,.int .u64 0,.slice none 0 0] 257)) wr.heap.size B9 (.slice none 0 0)) (Eu wr B9 (.slice none 0 0));have HBZ:=Qh (Aa wr (.cells #[.int .i64 0,.bool false,.int .u64 0,.slice none 0 0] 257));obtain⟨f,bv⟩:=x;dsimp only at HCE HNO hx31 h1v;clear hx htk hxm hcell hat;go_wp2_with (first|(with_reducible refine Ot rfl (.tmp 26) rfl b (off+k*4) f bv rfl HCE.out ?_)|(with_reducible refine C7 rfl (.tmp 9) (.tmp 27) rfl wr.heap.size B9 f (.slice none 0 0) bv rfl rfl HFZ.out h1v ?_));intro w3 hw3;have HF3:=Qs (B0 w3 wr.heap.size f bv) (by rw [hw3.out];exact HFZ.out.row);have HB3:=Qs (Below wr.heap.size wr w3) (by rw [hw3.out];exact Bw HBZ.out (μ _) _);clear hw3 HFZ HBZ HCE;have hsz:w1.heap.size+2≤wr.heap.size:=by have:=(δ.1 HX.out).1;omega
   have hszk:wr.heap.size<w3.heap.size:=HF3.out.lt;have HX3:=Qh ((HB3.out.block _ (by omega)).trans HX.out);have HM3:=Qh (M1 HM.out HB3.out);have HBW:=Qs (Below w1.heap.size w1 w3) (HB.out.trans (HB3.out.mono (by omega)));clear HX HM HB HB3;generalize wr.heap.size=gx at*;go_wp2_with fail;have hbd:Below w3.heap.size w3 (World.drew w3):=Ac w3 1;refine ε (S:=fun w'=>Ab (fun k=>k=w1.heap.size) w3 w') (by kernel_rfl) (Ab.below hbd) (fun hHeld=> ?_);have FX1:=Qh (fun(wF:World) (hSw:(fun w'=>Ab (fun k=>k=w1.heap.size) w3 w') wF)=>And.intro ((show wF.cell? ⟨w1.heap.size+1,0,none⟩=some (.map (some w1.heap.size)) from hSw.cell (by simp [World.cell?,HX3.out]) (by simp only;omega))) ((hSw.cell HF3.out.c0 (by simp only;omega))));refine tf FX1 0 rfl ?_;refine tf FX1 1 rfl ?_;refine tf FX1 2 rfl ?_;refine tf FX1 3 rfl ?_;refine tf FX1 4 rfl ?_;refine tf FX1 5 rfl ?_;clear FX1;refine tkl 6 gx 0 [.int .i64 (f.tag:Int),.bool f.text,.int .u64 (f.num:Int),bv] rfl rfl (fun w' h j v hv=>by rw [Nat.zero_add];exact h.cell (by rw [HF3.out.cell];simpa [Gb] using hv) (by simp only;omega)) underlying257 rfl (by rw [fdInfo];rfl) ?_;simp only [pA,pB,pC,pD];have HXd:=Qh ((hbd.block _ (by omega)).trans HX3.out);have HMd:=Qh (M1 HM3.out hbd);have HBd:=Qs (Below w1.heap.size w1 (World.drew w3)) (HBW.out.trans (hbd.mono (by omega)));have hszd:w3.heap.size≤(World.drew w3).heap.size:=hbd.size;clear hbd HM3;generalize World.drew w3=wd at*;refine Rd 7 rfl fun K hK=> ?_;refine wp_mapPut (f:=f) (bv:=bv) (.tmp 31) (.tmp 33) (.tmp 34) rfl rfl rfl rfl HMd.out (by omega) (by omega) (fun W4 hM4 hg4=> ?_);have HT4:=Qh (show Ab (fun k=>k=w1.heap.size) w3 W4 from hHeld.trans (Ab.grown hg4 (S:=fun k=>k=w1.heap.size) fun k hk=>by cases hk;rfl) fun i hi=> .inl hi);have HB4:=Qs (Below w1.heap.size w1 W4) (HBd.out.grown hg4 (by omega) (fun j hj=>by cases hj;exact μ _));have HX4:=Qh ((hg4.block (w1.heap.size+1) (by omega) (fun e=>by injection e with e;omega)).trans HXd.out);have HM4:=Qh hM4;have HF4:=Qs (FdD (D.put (.int .i64 (f.tag:Int)) (.held (fdV f bv))) (xs.take (k+1))) (by rw [HTK.out];exact HF.out.put f bv HNO.out);refine hK.out _ _ HT4.out (fun _=> ?_);clear hK K hHeld hM4 hg4;refine Ξ (by kernel_rfl) ?_ _;go_wp2;go_roundw
   case rel=>exact⟨k+1,_,by omega,by go_num,HX4,HM4,HF4,HB4⟩
   case measure=>simp [intOf];omega
  ·obtain rfl:k=xs.length:=by omega
   have HF2:=Qs (FdD D xs) (by have:=HF.out;rw [List.take_length] at this;exact this);go_wp2;go_ret2;refine⟨fun h=>absurd HE.out h,fun _=>⟨w1.heap.size+1,w1.heap.size,xs,rfl,HXS.out,⟨HX.out,⟨D,HM.out.mono (by omega),HF2.out⟩,HR1.out,fun x hx=> ?_⟩,by have:=HB1.out.size;omega,HB1.out.size⟩,Below.next HB1.out HB.out⟩;exact((HO.out.2 x hx).mono (A':=fun k=>k≠w1.heap.size+1∧k≠w1.heap.size) fun k hk=>⟨by omega,by omega⟩).below HB.out
end
section
open Go.RowKit Go.Maps
def takeP (xs:List (Ce×Value)) (bad:Int) (k:Int) (t:Bool):(Ce×Value)×List (Ce×Value)×Int:=
 match xs.find? (Ez k) with
 |none=>((B9,.slice none 0 0),xs,bad)
 |some x=>if x.1.text=t then (x,Iv k xs,bad) else ((B9,.slice none 0 0),Iv k xs,33)
theorem G8.left {k:Int} {xs:List (Ce×Value)}  (h:G8 w r m bad xs) (hg:w.grownBy w' (some m)) (hM:w'.ownsMap prog 3 Nm m 1000 (D.del (.int .i64 k))) (hF:FdD D xs):G8 w' r m bad (Iv k xs):=
 ⟨(hg.block _ h.lt.1 (fun e=>by injection e with e;exact h.ne e)).trans h.blk,⟨_,hM,hF.del k h.tags⟩,h.tags.filter _,fun x hx=>As.turned (h.rows x (List.mem_filter.1 hx).1) (Ab.grown hg (S:=fun j=>j=m) fun j hj=>by cases hj;rfl) fun j hj=>hj.2⟩
theorem G8.setBad {b':Int} {xs:List (Ce×Value)} (h:G8 w r m bad xs):G8 (w.setCell ⟨r,1,none⟩ (Vi Vk b')) r m b' xs:=by
 obtain⟨D,h1,h2⟩:=h.map;refine⟨?_,⟨D,h1.setCell (fun e=>h.ne e.symm) _,h2⟩,h.tags,fun x hx=>As.turned (h.rows x hx) (Ab.setCell (S:=fun j=>j=r) w ⟨r,1,none⟩ (Vi Vk b') rfl) fun j hj=>hj.1⟩;simp only [World.setCell];rw [Array.getElem?_modify];simp [h.blk]
theorem G8.other {xs:List (Ce×Value)}  (h:G8 w r m bad xs) (ht:Ab S w w') (hS: ∀ k,S k→B≤k) (hr:r<B) (hm:m<B) (hx: ∀ x∈xs,As (fun k=>k<B) w x.2 x.1.data):G8 w' r m bad xs:=by
 obtain⟨D,⟨es,clock,hb,hf⟩,h2⟩:=h.map;have hb':=(ht.block _ (δ.1 hb).1 (fun hs=>by have:=hS _ hs;omega)).trans hb;refine⟨(ht.block _ h.lt.1 (fun hs=>by have:=hS _ hs;omega)).trans h.blk,⟨D,⟨es,clock,hb',hf⟩,h2⟩,h.tags,fun x hxm=> ?_⟩;obtain⟨oa,cap,e1,e2,e3⟩:=h.rows x hxm;obtain⟨oa',cap',e1',_,e3'⟩:=hx x hxm;rw [e1] at e1';simp only [Value.slice.injEq,true_and] at e1';obtain⟨rfl,rfl⟩:=e1';refine⟨oa,cap,e1,e2,fun hn=> ?_⟩;obtain⟨b,off,rfl,ha,hc⟩:=e3 hn;obtain⟨b',off',e,ha',_⟩:=e3' hn;simp only [Option.some.injEq,Addr.mk.injEq,and_true] at e;obtain⟨rfl,rfl⟩:=e;exact⟨b,off,rfl,ha,fun i u hu=>ht.cell (hc i u hu) fun hs=>by have:=hS _ hs;simp only at this;omega⟩
def TakePost (w:World) (r m:Nat) (y:(Ce×Value)×List (Ce×Value)×Int) (e:Ending) (w':World):Prop:=e= .returned (fdV y.1.1 y.1.2)∧G8 w' r m y.2.2 y.2.1∧Ab (fun k=>k=r∨k=m) w w'
theorem rdTake_any (w:World) (r m:Nat) (bad k:Int) (t:Bool) (xs:List (Ce×Value)) (h:G8 w r m bad xs) (hk:0≤k∧k≤1000):
  Calls prog 153 #[.pointer (some ⟨r,0,none⟩),.int .i64 k,.bool t] w (TakePost w r m (takeP xs bad k t)):=by
 have HB0:=Qh (Aa w (.cells #[.int .i64 0,.bool false,.int .u64 0,.slice none 0 0] 257));have HR0:=Qs (B0 (w.alloc (.cells #[.int .i64 0,.bool false,.int .u64 0,.slice none 0 0] 257)) w.heap.size B9 (.slice none 0 0)) (Eu w B9 (.slice none 0 0));have HH:=Qh (h.below HB0.out);have HLT:=Qh h.lt;have HROW:=Qh (fun x (hx:x∈xs)=>(h.rows x hx).low);have c0:=HH.out.c0;obtain⟨D,hM,hF⟩:=HH.out.map;have HM:=Qh hM;have HF:=Qh hF;have hkey:keyOf prog 3 (.int .i64 k)=some (.int .i64 k):=keyOf_int_mk underlying3 (WalkArith.wf_i64 (by omega));have HZ:=Qs (∀ W:World,(zeroValue 257).run prog W= .ok (fdV B9 (.slice none 0 0)) W) (fun W=>by kernel_rfl);clear h hM hF;go_enter func153,ntmps153;go_wp2_with (at_lookup;refine wpList_lookup_own_ok _ rfl _ _ 253 rfl 3 257 (int_keyed underlying3) underlying253 Nm (HZ.out _) (.held (fdV B9 (.slice none 0 0))) [] rfl m 1000 D rfl HM.out _ _ rfl hkey ?_);intro v ps hv;rw [HF.out.at_] at hv;rw [HF.out.has];have HSZ:=Qs ((w.alloc (.cells #[.int .i64 0,.bool false,.int .u64 0,.slice none 0 0] 257)).heap.size=w.heap.size+1) (by simp);generalize w.alloc (.cells #[.int .i64 0,.bool false,.int .u64 0,.slice none 0 0] 257)=w0 at*;have HFZ:=Qs (B0 (w0.alloc (.cells #[.int .i64 0,.bool false,.int .u64 0,.slice none 0 0] 257)) w0.heap.size B9 (.slice none 0 0)) (Eu w0 B9 (.slice none 0 0));have HBZ:=Qh (Aa w0 (.cells #[.int .i64 0,.bool false,.int .u64 0,.slice none 0 0] 257));have hlt:=HLT.out;rcases hfd:xs.find? (Ez k) with _|x
 ·have HE:=Qs (takeP xs bad k t=((B9,.slice none 0 0),xs,bad)) (by unfold takeP;rw [hfd]);have hany:xs.any (Ez k)=false:=List.any_eq_false.2 fun y hy=>List.find?_eq_none.1 hfd y hy;rw [hfd] at hv;have hv':v=fdV B9 (.slice none 0 0):=by
   unfold Nm at hv;dsimp only at hv;injection hv with h;injection h with h1 _;injection h1
  rw [hany,hv'];clear hv hv' hfd hany c0;go_wp2_with (with_reducible refine C7 rfl (.tmp 7) (.tmp 19) rfl w0.heap.size B9 B9 (.slice none 0 0) (.slice none 0 0) rfl rfl HFZ.out rfl ?_);intro w2 hw2;have HF2:=Qs (B0 w2 w0.heap.size B9 (.slice none 0 0)) (by rw [hw2.out];exact HFZ.out.row);have HB2:=Qs (Below w0.heap.size w0 w2) (by rw [hw2.out];exact Bw HBZ.out (μ _) _);clear hw2;have HR2:=Qh (HR0.out.below HB2.out);have HH2:=Qh (HH.out.below HB2.out);go_wp2_with (first|(with_reducible refine Eb rfl (.tmp 7) rfl w0.heap.size B9 (.slice none 0 0) rfl HF2.out ?_)|(with_reducible refine C7 rfl (.tmp 6) (.tmp 23) rfl w.heap.size B9 B9 (.slice none 0 0) (.slice none 0 0) rfl rfl HR2.out rfl ?_));intro w3 hw3;have HR3:=Qs (B0 w3 w.heap.size B9 (.slice none 0 0)) (by rw [hw3.out];exact HR2.out.row);have HT3:=Qh (show Ab (fun j=>j=w.heap.size) w2 w3 by rw [hw3.out];exact Ax _ _ _);clear hw3;have HH3:=Qs (G8 w3 r m bad xs) (HH2.out.other (B:=w.heap.size) HT3.out (fun j hj=>by omega) hlt.1 hlt.2 fun x hx=>(((HROW.out x hx).mono fun j hj=>hj.2).below HB0.out).below HB2.out);go_wp2;exact π (v:=fdV B9 (.slice none 0 0)) (Le rfl _ _ w.heap.size _ _ rfl HR3.out) rfl ⟨by rw [HE.out],by rw [HE.out];exact HH3.out,((Ab.below (Below.next HB0.out HB2.out)).trans HT3.out fun i hi=> .inr (by omega))⟩
 ·have hxm:x∈xs:=List.mem_of_find?_eq_some hfd;have hany:xs.any (Ez k)=true:=List.any_eq_true.2 ⟨x,hxm,List.find?_some hfd⟩;have HE:=Qs (takeP xs bad k t=if x.1.text=t then (x,Iv k xs,bad) else ((B9,.slice none 0 0),Iv k xs,33)) (by unfold takeP;rw [hfd]);rw [hfd] at hv;obtain⟨f,bv⟩:=x;have hv':v=fdV f bv:=by
   unfold Nm at hv;dsimp only at hv;injection hv with h;injection h with h1 _;injection h1
  have h1v:bv.oneCell'=true:=by obtain⟨_,_,e,_⟩:=HROW.out _ hxm;dsimp only at e;rw [e];rfl
  rw [hany,hv'];dsimp only at HE;clear hv hv' hfd hany c0 hxm;go_wp2_with (with_reducible refine C7 rfl (.tmp 7) (.tmp 19) rfl w0.heap.size B9 f (.slice none 0 0) bv rfl rfl HFZ.out h1v ?_);intro w2 hw2;have HF2:=Qs (B0 w2 w0.heap.size f bv) (by rw [hw2.out];exact HFZ.out.row);have HB2:=Qs (Below w0.heap.size w0 w2) (by rw [hw2.out];exact Bw HBZ.out (μ _) _);clear hw2;have HR2:=Qh (HR0.out.below HB2.out);have HH2:=Qh (HH.out.below HB2.out);have HM2:=Qh (M1 HM.out HB2.out);have HW2:=Qh (Below.next HB0.out HB2.out);have c0:=HH2.out.c0;have hsz:w.heap.size<w0.heap.size:=by have:=HSZ.out;omega
  clear HM HH HR0 HB0;go_wp2_with (at_delete;refine wpList_delete_own _ rfl _ _ 253 3 rfl 257 (int_keyed underlying3) underlying253 Nm m 1000 D rfl HM2.out _ _ rfl hkey ?_);intro w3 hM3 ht3;have hg3:=ht3.grown;have HH3:=Qh (HH2.out.left (k:=k) hg3 hM3 HF.out);have HT3:=Qh (show Ab (fun j=>j=m) w2 w3 from Ab.grown hg3 (S:=fun j=>j=m) fun j hj=>by cases hj;rfl);have HF3:=Qh (HF2.out.turned HT3.out (by omega));have HR3:=Qh (HR2.out.turned HT3.out (by omega));have HROW3:=Qh (fun x (hx:x∈Iv k xs)=>(show As (fun j=>(j≠r∧j≠m)∧j<w.heap.size) w3 x.2 x.1.data from((HROW.out x (List.mem_filter.1 hx).1).below HW2.out).turned HT3.out fun j hj=>hj.1.2));have d1:=HF3.out.c1;have HW3:=Qh (show Ab (fun j=>j=r∨j=m) w w3 from(Ab.below HW2.out).trans HT3.out fun i hi=> .inl (.inr hi));clear hM3 ht3 hg3 c0 HM2 HH2 HT3;rcases hft:(f.text==t) with _|_
  case true=>
   have HE2:=Qs (takeP xs bad k t=((f,bv),Iv k xs,bad)) (by rw [HE.out,κ (by simpa using hft)]);go_wp2_with (first|(with_reducible refine Eb rfl (.tmp 7) rfl w0.heap.size f bv rfl HF3.out ?_)|(with_reducible refine C7 rfl (.tmp 6) (.tmp 37) rfl w.heap.size B9 f (.slice none 0 0) bv rfl rfl HR3.out h1v ?_));intro w4 hw4;have HR4:=Qs (B0 w4 w.heap.size f bv) (by rw [hw4.out];exact HR3.out.row);have HT4:=Qh (show Ab (fun j=>j=w.heap.size) w3 w4 by rw [hw4.out];exact Ax _ _ _);clear hw4;have HH4:=Qs (G8 w4 r m bad (Iv k xs)) (HH3.out.other (B:=w.heap.size) HT4.out (fun j hj=>by omega) hlt.1 hlt.2 fun x hx=>(HROW3.out x hx).mono fun j hj=>hj.2);go_wp2;exact π (v:=fdV f bv) (Le rfl _ _ w.heap.size _ _ rfl HR4.out) rfl ⟨by rw [HE2.out],by rw [HE2.out];exact HH4.out,HW3.out.trans HT4.out fun i hi=> .inr (by omega)⟩
  case false=>
   have HE2:=Qs (takeP xs bad k t=((B9,.slice none 0 0),Iv k xs,33)) (by rw [HE.out,γ (by simpa using hft)]);have e1:=HH3.out.c1;have f1:=HH3.out.free 1;have HH4:=Qh (HH3.out.setBad (b':=33));have HTB:=Qh (Ab.setCell (S:=fun j=>j=r) w3 ⟨r,1,none⟩ (.int .i64 33) rfl);have HR4:=Qh (HR3.out.turned HTB.out (by omega));go_wp2_with (with_reducible refine C7 rfl (.tmp 6) (.tmp 36) rfl w.heap.size B9 B9 (.slice none 0 0) (.slice none 0 0) rfl rfl HR4.out rfl ?_);intro w4 hw4;have HR5:=Qs (B0 w4 w.heap.size B9 (.slice none 0 0)) (by rw [hw4.out];exact HR4.out.row);have HT4:=Qh (show Ab (fun j=>j=w.heap.size) (w3.setCell ⟨r,1,none⟩ (.int .i64 33)) w4 by rw [hw4.out];exact Ax _ _ _);clear hw4;have HH5:=Qs (G8 w4 r m 33 (Iv k xs)) (HH4.out.other (B:=w.heap.size) HT4.out (fun j hj=>by omega) hlt.1 hlt.2 fun x hx=>((HROW3.out x hx).turned HTB.out fun j hj=>hj.1.1).mono fun j hj=>hj.2);go_wp2;exact π (v:=fdV B9 (.slice none 0 0)) (Le rfl _ _ w.heap.size _ _ rfl HR5.out) rfl ⟨by rw [HE2.out],by rw [HE2.out];exact HH5.out,(HW3.out.trans HTB.out fun i hi=> .inl (.inl hi)).trans HT4.out fun i hi=> .inr (by omega)⟩
end
section
open Go.RowKit Go.Maps
theorem takeP_row {w w':World} {r m:Nat} {bad k:Int} {t:Bool} {xs:List (Ce×Value)} (h:G8 w r m bad xs) (ht:Ab (fun j=>j=r∨j=m) w w'):As (fun j=>j≠r∧j≠m) w' (takeP xs bad k t).1.2 (takeP xs bad k t).1.1.data:=by
 have hnil:As (fun j=>j≠r∧j≠m) w' (.slice none 0 0) B9.data:=Ho _ _;unfold takeP;rcases hfd:xs.find? (Ez k) with _|x
 ·exact hnil
 ·dsimp only;split
  ·exact As.turned (h.rows x (List.mem_of_find?_eq_some hfd)) ht fun j hj hs=>by rcases hs with h|h<;>omega
  ·exact hnil
theorem rdNum_any (w:World) (r m:Nat) (bad k:Int) (xs:List (Ce×Value)) (h:G8 w r m bad xs) (hk:0≤k∧k≤1000):
  Calls prog 118 #[.pointer (some ⟨r,0,none⟩),Vi Vk k] w fun e w'=>e= .returned (.int .u64 ((takeP xs bad k false).1.1.num:Int))∧G8 w' r m (takeP xs bad k false).2.2 (takeP xs bad k false).2.1∧Ab (fun j=>j=r∨j=m) w w':=by
 have HT:=Qh (rdTake_any w r m bad k false xs h hk);unfold TakePost at HT;generalize takeP xs bad k false=y at*;clear h hk;have hfl: ∀ (f:Ce) (bv:Value) (W:World),(Instr.field 257 (fdV f bv) 2).run prog W= .ok (.int .u64 (f.num:Int)) W:=fun f bv W=>by kernel_rfl
 go_enter func118,ntmps118;go_wp2_with fail;refine HT.out.mono ?_;rintro e w1 ⟨rfl,h1,h2⟩;go_wp2;go_ret;exact⟨rfl,h1,h2⟩
theorem rdText_any (w:World) (r m:Nat) (bad k:Int) (xs:List (Ce×Value)) (h:G8 w r m bad xs) (hk:0≤k∧k≤1000):
  Calls prog 120 #[.pointer (some ⟨r,0,none⟩),Vi Vk k] w fun e w'=>e= .returned (takeP xs bad k true).1.2∧As (fun j=>j≠r∧j≠m) w' (takeP xs bad k true).1.2 (takeP xs bad k true).1.1.data∧G8 w' r m (takeP xs bad k true).2.2 (takeP xs bad k true).2.1∧Ab (fun j=>j=r∨j=m) w w':=by
 have HT:=Qh (rdTake_any w r m bad k true xs h hk);have HR:=Qh (fun W ht=> @takeP_row w W r m bad k true xs h ht);unfold TakePost at HT;generalize takeP xs bad k true=y at*;clear h hk;have hfl: ∀ (f:Ce) (bv:Value) (W:World),(Instr.field 257 (fdV f bv) 3).run prog W= .ok bv W:=fun f bv W=>by kernel_rfl
 go_enter func120,ntmps120;go_wp2_with fail;refine HT.out.mono ?_;rintro e w1 ⟨rfl,h1,h2⟩;have HR1:=Qh (HR.out w1 h2);go_wp2;go_ret;exact⟨rfl,HR1.out,h1,h2⟩
def errR (xs:List (Ce×Value)) (bad:Int):Int:=if bad≠0 then bad else if xs=[] then 0 else 20
theorem rdErr_any (w:World) (r m:Nat) (bad:Int) (xs:List (Ce×Value)) (h:G8 w r m bad xs):
  Calls prog 121 #[.pointer (some ⟨r,0,none⟩)] w fun e w'=>e= .returned (Vi Vk (errR xs bad))∧w=w':=by
 obtain⟨D,hM,hF⟩:=h.map;have HM:=Qh hM;have c0:=h.c0;have c1:=h.c1;have HS:=Qh hF.size;clear hM hF h;rcases hb:(bad != 0) with _|_
 ·have hb0:bad=0:=by simpa using hb
  have HE:=Qs (errR xs bad=if xs=[] then 0 else 20) (by unfold errR;rw [γ (fun h=>h hb0)]);clear hb0;rcases xs with _|⟨x,xs⟩
  ·have HE2:=Qs (errR [] bad=0) (by rw [HE.out,κ rfl]);have q:decide (0<Maps.size D)=false:=by rw [HS.out];rfl
   go_enter func121,ntmps121;go_wp2_with (at_len;refine wpList_len_own _ rfl _ 253 rfl 3 257 underlying253 Nm m 1000 D rfl HM.out ?_);go_ret;rw [HE2.out];exact⟨rfl,rfl⟩
  ·have HE2:=Qs (errR (x::xs) bad=20) (by rw [HE.out,γ (by simp)]);have q:decide (0<Maps.size D)=true:=by rw [HS.out];simp
   go_enter func121,ntmps121;go_wp2_with (at_len;refine wpList_len_own _ rfl _ 253 rfl 3 257 underlying253 Nm m 1000 D rfl HM.out ?_);go_ret;rw [HE2.out];exact⟨rfl,rfl⟩
 ·have HE:=Qs (errR xs bad=bad) (by unfold errR;rw [κ (by simpa using hb)]);go_enter func121,ntmps121;go_wp2;go_ret;rw [HE.out];exact⟨rfl,rfl⟩
def E8 (u:Nat):Int:=(min u 4611686018427387904:Nat)
end
def I64 (n:Int):Prop:= -9223372036854775808≤n∧n≤9223372036854775807
def isDgt (c:UInt8):Prop:=48≤c.toNat∧c.toNat≤57
instance (c:UInt8):Decidable (isDgt c):=by unfold isDgt;infer_instance
def numberOf (s:List UInt8):Option Int:=
 match Lib.atoiAll s with
 |.ok n=>if Lib.itoa n=s then some n else none
 |_=>none
def hx (d:Nat):UInt8:=if d<10 then UInt8.ofNat (48+d) else UInt8.ofNat (87+d)
def unhx (c:UInt8):Option Nat:=if 48≤c.toNat∧c.toNat≤57 then some (c.toNat - 48) else if 97≤c.toNat∧c.toNat≤102 then some (c.toNat - 87) else none
def unhexOf:List UInt8→Option (List UInt8)
 | []=>some []
 | [_]=>none
 |a::b::l=>match unhx a,unhx b with
  |some x,some y=>(unhexOf l).map (UInt8.ofNat (16*x+y):: ·)
  |_,_=>none
structure Ev where
 kind:Int
 order:Int
 item:Int
 qty:Int
 price:Int
 cur:Int
 tax:Int
 who:List UInt8
 stamp:Int
 note:List UInt8
def Ai:Ev:=⟨0,0,0,0,0,0,0,[],0,[]⟩
theorem Ev.ext' {a b:Ev} (h0:a.kind=b.kind) (h1:a.order=b.order) (h2:a.item=b.item) (h3:a.qty=b.qty) (h4:a.price=b.price) (h5:a.cur=b.cur) (h6:a.tax=b.tax)
  (h7:a.who=b.who) (h8:a.stamp=b.stamp) (h9:a.note=b.note):a=b:=by
 cases a;cases b;simp at *;exact⟨h0,h1,h2,h3,h4,h5,h6,h7,h8,h9⟩
def M3 (c:UInt8):Bool:=c.toNat==45 || (decide (48≤c.toNat)&&decide (c.toNat≤57)) || (decide (97≤c.toNat)&&decide (c.toNat≤122))
def Hc (s:List UInt8):Bool:=s.all M3
def Dw (v:Int):Int:=if v<3 then 5 else if v=3 then 7 else if v=4 then 9 else 10
def Ms (x lo hi:Int):Bool:=decide (lo≤x)&&decide (x≤hi)
def Gj (v:Int) (e:Ev):Bool:=
 Ms e.order 1 1099511627776&&Ms e.item 0 65535&&Ms e.qty (if v<3 then -10000 else 0) 10000&&Ms e.price 0 (if v=1 then 1000000 else 100000000)&&
 Ms e.cur 0 (if v<2 then 0 else 3)&&Ms e.tax 0 (if v<3 then 0 else 5000)&&(if v<4 then e.who.isEmpty else Hc e.who)&&Ms e.stamp 0 (if v<5 then 0 else 1099511627776)&&(decide (5≤v) || e.note.isEmpty)
def Am (v:Int) (e:Ev):Int:=
 if v<1∨5<v then 30
 else if e.kind<1∨Dw v<e.kind then 31
 else if 16<e.who.length∨120<e.note.length then 24
 else if Gj v e=true then 0 else 32
def cutAt (c:UInt8):List UInt8→Option (List UInt8×List UInt8)
 | []=>none
 |x::l=>if x=c then some ([],l) else (cutAt c l).map fun p=>(x::p.1,p.2)
def keyW:List (List UInt8):=[[111,114,100,101,114],[105,116,101,109],[113,116,121],[112,114,105,99,101],[99,117,114],[116,97,120],[119,104,111],[115,116,97,109,112]]
def noteW:List UInt8:=[110,111,116,101]
def keyIdx (w:List UInt8):Option Nat:=keyW.findIdx? (· ==w)
def setKey (e:Ev) (k:Nat) (n:Int):Ev:=
 match k with|0=>{e with order:=n}|1=>{e with item:=n}|2=>{e with qty:=n}|3=>{e with price:=n}|4=>{e with cur:=n}|5=>{e with tax:=n}|7=>{e with stamp:=n}|_=>e
def fieldsOf (next:Nat) (e:Ev):List (List UInt8)→Ev×Int
 | []=>(e,0)
 |w::ws=>
  match cutAt 61 w with
  |none=>(Ai,100)
  |some (name,val)=>
   if name=noteW∧ws=[] then
    match unhexOf val with
    |none=>(Ai,101)
    |some b=>if b=[] then (Ai,101) else ({e with note:=b},0)
   else match keyIdx name with
   |none=>(Ai,100)
   |some k=>
    if k<next then (Ai,100)
    else if k=6 then (if val=[] then (Ai,101) else fieldsOf 7 {e with who:=val} ws)
    else match numberOf val with
    |none=>(Ai,101)
    |some n=>if n=0 then (Ai,101) else fieldsOf (k+1) (setKey e k n) ws
end Go.Proofs.YtgkdenejkcngnaaGreatDoor
