import Derived.Deep.RegionHeld3
import Derived.Laws.StructEq
import Derived.Deep.MidRow
import Derived.Deep.CutRange
import Derived.Test.YtgkdenejkcngnaaGreatDoorPv5
set_option maxRecDepth 100000
set_option maxHeartbeats 8000000
namespace Go.Proofs.YtgkdenejkcngnaaGreatDoor
open Go.RowKit
open Value renaming int→Vi
open IntKind renaming i64→Vk
open Go.Proofs.Tryz
variable {a:Act}{K:Act→World→Prop}{d d':Af}{listed:Array Bool}{af:Array Edge}{ops:Array Oper}{x:Bl}{D:DataW Value}{e:Ev}{Q:Exit→Act→World→Prop}{fn:Func}{h:Hd}{bad from_ num:Int}{xs:List (Ce×Value)}{E bs:List (List UInt8)}{L:List Aq}{fs fs':List Bl}{ps:List I3}{zs:List Int}{ms:List Mk}{us vs:List Nat}{rest:List Oper}{b body l n raw t:List UInt8}{cs:List Value}{B N base c f first g i j k m more most p r segEv size stride u:Nat}{A A' S:Nat→Prop}{o:Oper}{P:Program}{q:Tmp}{bv mv rv sv v v' v1:Value}{W W' X w w' w0 w1 w2:World}
def hasOf (v:Int):Int:=if v=1 then 5 else if v=2 then 6 else if v=3 then 7 else if v=4 then 8 else 10
def Lu (e:Ev):List Int:=[0,e.kind,e.order,e.item,e.qty,e.price,e.cur,e.tax,0,e.stamp,0]
def Nb (v:Int):List Int:=[0,1,1,0,if v<3 then -10000 else 0,0,0,0,0,0,0]
def Ii (v:Int):List Int:=[0,10,1099511627776,65535,10000,if v=1 then 1000000 else 100000000,3,5000,0,1099511627776,0]
def N5 (v:Int) (e:Ev) (k:Nat):Prop:=hasOf v<k∧(Lu e).getD k 0≠0∨(Lu e).getD k 0<(Nb v).getD k 0∨(Ii v).getD k 0<(Lu e).getD k 0
theorem fits_iff (v:Int) (e:Ev) (h0:1≤v) (h1:v≤5) (hk0:1≤e.kind) (hk1:e.kind≤Dw v):
  Gj v e=true↔(∀ k,1≤k→k≤10→ ¬ N5 v e k)∧ ¬ (v<4∧e.who≠ []∨v<5∧e.note≠ [])∧Hc e.who=true:=by
 have hl:Dw v≤10:=by unfold Dw;split<;>(try split)<;>(try split)<;>omega
 unfold Gj Ms;simp only [Bool.and_eq_true,decide_eq_true_eq,Bool.or_eq_true,List.isEmpty_iff];constructor
 ·rintro⟨⟨⟨⟨⟨⟨⟨⟨h2,h3⟩,h4⟩,h5⟩,h6⟩,h7⟩,h8⟩,h9⟩,h10⟩;refine⟨fun k g0 g1=> ?_,?_,?_⟩
  ·unfold N5 hasOf
   match k,g0,g1 with
   |1,_,_=>simp only [Lu,Nb,Ii,List.getD_cons_succ,List.getD_cons_zero];split<;>(try split)<;>(try split)<;>(try split)<;>omega
   |2,_,_=>simp only [Lu,Nb,Ii,List.getD_cons_succ,List.getD_cons_zero];split<;>(try split)<;>(try split)<;>(try split)<;>omega
   |3,_,_=>simp only [Lu,Nb,Ii,List.getD_cons_succ,List.getD_cons_zero];split<;>(try split)<;>(try split)<;>(try split)<;>omega
   |4,_,_=>simp only [Lu,Nb,Ii,List.getD_cons_succ,List.getD_cons_zero];split at h4<;>rename_i hv<;>simp only [hv,if_true,if_false]<;>(split<;>(try split)<;>(try split)<;>(try split)<;>omega)
   |5,_,_=>simp only [Lu,Nb,Ii,List.getD_cons_succ,List.getD_cons_zero];split at h5<;>rename_i hv<;>simp only [hv,if_true,if_false]<;>(try split)<;>(try split)<;>(try split)<;>omega
   |6,_,_=>simp only [Lu,Nb,Ii,List.getD_cons_succ,List.getD_cons_zero];split at h6<;>(split<;>(try split)<;>(try split)<;>(try split)<;>omega)
   |7,_,_=>simp only [Lu,Nb,Ii,List.getD_cons_succ,List.getD_cons_zero];split at h7<;>(split<;>(try split)<;>(try split)<;>(try split)<;>omega)
   |8,_,_=>simp only [Lu,Nb,Ii,List.getD_cons_succ,List.getD_cons_zero];omega
   |9,_,_=>simp only [Lu,Nb,Ii,List.getD_cons_succ,List.getD_cons_zero];split at h9<;>(split<;>(try split)<;>(try split)<;>(try split)<;>omega)
   |10,_,_=>simp only [Lu,Nb,Ii,List.getD_cons_succ,List.getD_cons_zero];omega
  ·rintro(⟨hv,hw⟩|⟨hv,hn⟩)
   ·rw [κ hv] at h8;exact hw (List.isEmpty_iff.1 h8)
   ·rcases h10 with h|h
    ·omega
    ·exact hn h
  ·split at h8
   ·rw [List.isEmpty_iff.1 h8];rfl
   ·exact h8
 ·rintro⟨ht,hwn,hp⟩;have t2:=ht 2 (by omega) (by omega);have t3:=ht 3 (by omega) (by omega);have t4:=ht 4 (by omega) (by omega);have t5:=ht 5 (by omega) (by omega);have t6:=ht 6 (by omega) (by omega);have t7:=ht 7 (by omega) (by omega);have t9:=ht 9 (by omega) (by omega);unfold N5 hasOf at t2 t3 t4 t5 t6 t7 t9;simp only [Lu,Nb,Ii,List.getD_cons_succ,List.getD_cons_zero] at t2 t3 t4 t5 t6 t7 t9;refine⟨⟨⟨⟨⟨⟨⟨⟨?_,?_⟩,?_⟩,?_⟩,?_⟩,?_⟩,?_⟩,?_⟩,?_⟩
  ·omega
  ·omega
  ·split<;>rename_i hv<;>simp only [hv,if_true,if_false] at t4<;>omega
  ·split<;>rename_i hv<;>simp only [hv,if_true,if_false] at t5<;>omega
  ·split<;>rename_i hv<;>(split at t6<;>(try split at t6)<;>(try split at t6)<;>(try split at t6)<;>omega)
  ·split<;>rename_i hv<;>(split at t7<;>(try split at t7)<;>(try split at t7)<;>(try split at t7)<;>omega)
  ·split
   ·rename_i hv;rw [List.isEmpty_iff];exact Classical.byContradiction fun h=>hwn (.inl ⟨hv,h⟩)
   ·exact hp
  ·split<;>rename_i hv<;>(split at t9<;>(try split at t9)<;>(try split at t9)<;>(try split at t9)<;>omega)
  ·by_cases hv:v<5
   ·exact .inr (Classical.byContradiction fun h=>hwn (.inr ⟨hv,h⟩))
   ·exact .inl (by omega)
structure Ln where
 item:Int
 price:Int
 qty:Int
 shipped:Int
structure St where
 order:Int
 status:Int
 prior:Int
 cur:Int
 tax:Int
 lines:List Ln
 paid:Int
 refunded:Int
 events:Int
 refused:Int
 stamp:Int
 who:List UInt8
def netOf (ls:List Ln):Int:=ls.foldl (fun n l=>n+l.qty*l.price) 0
def dueOf (s:St):Int:=netOf s.lines+netOf s.lines*s.tax / 10000
def lnFine (l:Ln):Bool:=Ms l.item 0 65535&&Ms l.price 0 100000000&&Ms l.qty 1 100000&&Ms l.shipped 0 l.qty
def risen:Int→List Ln→Bool
 |_,[]=>true
 |b,l::ls=>decide (b<l.item)&&lnFine l&&risen l.item ls
def linedB (ls:List Ln):Bool:=decide (ls.length≤16)&&risen (-1) ls
def namedB (who:List UInt8):Bool:=decide (who.length≤16)&&Hc who
def noneB (ls:List Ln):Bool:=ls.all fun l=>l.shipped==0
def wholeB (ls:List Ln):Bool:=ls.all fun l=>l.shipped==l.qty
def boundedB (s:St):Bool:=
 Ms s.order 1 1099511627776&&(Ms s.status 0 5&&(Ms s.cur 0 3&&(Ms s.tax 0 5000&&(linedB s.lines&&(Ms s.refunded 0 s.paid&&(Ms s.events 0 1099511627776&&(Ms s.refused 0 s.events&&(Ms s.stamp 0 1099511627776&&namedB s.who))))))))
def standB (s:St) (at_:Int):Bool:=
 let full:=s.paid==dueOf s&&decide (0<s.paid)
 if at_=0 then s.lines.isEmpty&&s.cur==0&&s.tax==0&&s.events==s.refused&&s.stamp==0&&s.who.isEmpty
 else if at_=1 then noneB s.lines&& !full&&s.refunded==0
 else if at_=3 then full&& !wholeB s.lines
 else if at_=4 then full&&wholeB s.lines
 else noneB s.lines
def validB (s:St):Bool:=
 boundedB s&&decide (s.paid≤dueOf s)&&(if s.status=2 then (s.prior==1 || s.prior==3)&&standB s s.prior else s.prior==0&&standB s s.status)
@[reducible] def Ga (e : Ev) : Value := .agg #[Vi Vk e.kind, Vi Vk e.order, Vi Vk e.item, Vi Vk e.qty, Vi Vk e.price, Vi Vk e.cur, Vi Vk e.tax, .string ⟨e.who.toArray⟩, Vi Vk e.stamp, .string ⟨e.note.toArray⟩]
structure Lj (n:Nat) (e:Ev):Prop where
 kind:I64 e.kind
 order:I64 e.order
 item:I64 e.item
 qty:I64 e.qty
 price:I64 e.price
 cur:I64 e.cur
 tax:I64 e.tax
 stamp:I64 e.stamp
 who:e.who.length≤n
 note:e.note.length≤n
structure EvAt (w:World) (b:Nat) (e:Ev):Prop where
 c0:w.cell? ⟨b,0,none⟩=some (Vi Vk e.kind)
 c1:w.cell? ⟨b,1,none⟩=some (Vi Vk e.order)
 c2:w.cell? ⟨b,2,none⟩=some (Vi Vk e.item)
 c3:w.cell? ⟨b,3,none⟩=some (Vi Vk e.qty)
 c4:w.cell? ⟨b,4,none⟩=some (Vi Vk e.price)
 c5:w.cell? ⟨b,5,none⟩=some (Vi Vk e.cur)
 c6:w.cell? ⟨b,6,none⟩=some (Vi Vk e.tax)
 c7:w.cell? ⟨b,7,none⟩=some (.string ⟨e.who.toArray⟩)
 c8:w.cell? ⟨b,8,none⟩=some (Vi Vk e.stamp)
 c9:w.cell? ⟨b,9,none⟩=some (.string ⟨e.note.toArray⟩)
theorem EvAt.below {b:Nat}  (h:EvAt w b e) (hb:Below w.heap.size w w'):EvAt w' b e:=
 ⟨cell_later hb h.c0,cell_later hb h.c1,cell_later hb h.c2,cell_later hb h.c3,cell_later hb h.c4,cell_later hb h.c5,cell_later hb h.c6,cell_later hb h.c7,cell_later hb h.c8,cell_later hb h.c9⟩
theorem Mx (w:World) (e:Ev) (t:TypeId):
  EvAt (w.alloc (.cells #[Vi Vk e.kind,Vi Vk e.order,Vi Vk e.item,Vi Vk e.qty,Vi Vk e.price,Vi Vk e.cur,Vi Vk e.tax,.string ⟨e.who.toArray⟩,Vi Vk e.stamp,.string ⟨e.note.toArray⟩] t)) w.heap.size e:=by
 constructor<;>(rw [World.cell?_alloc_new];rfl)
theorem refHas_any (v:Int) (w:World) (h0:1≤v) (h1:v≤5):Calls prog 50 #[Vi Vk v] w fun e w'=>e= .returned (Vi Vk (hasOf v))∧Below w.heap.size w w':=by
 rcases (show v=1∨v=2∨v=3∨v=4∨v=5 by omega) with rfl|rfl|rfl|rfl|rfl
 all_goals
  clear h0 h1;go_enter func50,ntmps50;go_wp2;go_ret;exact⟨rfl,(χ _ _).alloc (μ _) _⟩
theorem refLast_any (v:Int) (w:World) (h0:1≤v) (h1:v≤5):Calls prog 48 #[Vi Vk v] w fun e w'=>e= .returned (Vi Vk (Dw v))∧Below w.heap.size w w':=by
 rcases (show v=1∨v=2∨v=3∨v=4∨v=5 by omega) with rfl|rfl|rfl|rfl|rfl
 all_goals
  clear h0 h1;go_enter func48,ntmps48;go_wp2;go_ret;exact⟨rfl,(χ _ _).alloc (μ _) _⟩
def F5 (w:World) (b:Nat) (l:List Int):Prop:= ∀ (k:Nat) x,l[k]? =some x→w.cell? ⟨b,k,none⟩=some (Vi Vk x)
theorem F5.below {b:Nat} {l:List Int} (h:F5 w b l) (hb:Below w.heap.size w w'):F5 w' b l:=fun k x hx=>cell_later hb (h k x hx)
theorem intsAt_alloc (w:World) (l:List Int) (t:TypeId):F5 (w.alloc (.cells (l.map (Value.int .i64)).toArray t)) w.heap.size l:=fun k x hx=>by
 rw [World.cell?_alloc_new];simp [hx]
theorem Kl {b:Nat} {l:List Int} {cs:Array Value} {t:TypeId} (hb:w.heap.size=b) (hc:(l.map (Value.int .i64)).toArray=cs):F5 (w.alloc (.cells cs t)) b l:=by
 subst hb;subst hc;exact intsAt_alloc w l t
theorem refNums_any (e:Ev) (w:World):Calls prog 49 #[Ga e] w fun x w'=> ∃ b,x= .returned (.slice (some ⟨b,0,none⟩) 11 11)∧w.heap.size≤b∧F5 w' b (Lu e)∧Below w.heap.size w w':=by
 unfold Ga;go_enter func49,ntmps49;go_wp2;go_ret;refine⟨_,rfl,by simp,Kl (by simp) (by rfl),?_⟩;exact(((χ _ _).alloc (μ _) _)).alloc (by simp) _
def G9 (a b:Ev):Bool:=a.kind==b.kind&&(a.order==b.order&&(a.item==b.item&&(a.qty==b.qty&&(a.price==b.price&&(a.cur==b.cur&&(a.tax==b.tax&&(a.who==b.who&&(a.stamp==b.stamp&&a.note==b.note))))))))
theorem evSame_iff (a b:Ev):G9 a b=true↔a=b:=by
 unfold G9;simp only [Bool.and_eq_true,beq_iff_eq];constructor
 ·rintro⟨h0,h1,h2,h3,h4,h5,h6,h7,h8,h9⟩;exact Ev.ext' h0 h1 h2 h3 h4 h5 h6 h7 h8 h9
 ·rintro rfl;simp
theorem run_evEqual (a b:Ev) (w:World):(Op.equalIn 10000 38 (Ga a) (Ga b)).run prog w= .ok (G9 a b) w:=by
 have hS:prog.underlying 38=some (.struct (prog.fieldsOf 38)):=by kernel_rfl
 have hp:prog.stoodInHeld 38=false:=by kernel_rfl
 unfold Ga;rw [show (10000:Nat)=9999+1 from rfl,run_equalIn_agg w 9999 38 _ _ hS hp];simp only [Program.fieldsOf,underlying38];go_simp;unfold G9;by_cases h0:a.kind=b.kind
 case neg=>simp [h0]
 rw [κ h0];by_cases h1:a.order=b.order
 case neg=>simp [h1]
 rw [κ h1];by_cases h2:a.item=b.item
 case neg=>simp [h2]
 rw [κ h2];by_cases h3:a.qty=b.qty
 case neg=>simp [h3]
 rw [κ h3];by_cases h4:a.price=b.price
 case neg=>simp [h4]
 rw [κ h4];by_cases h5:a.cur=b.cur
 case neg=>simp [h5]
 rw [κ h5];by_cases h6:a.tax=b.tax
 case neg=>simp [h6]
 rw [κ h6];by_cases h7:a.who=b.who
 case neg=>simp [h7]
 rw [κ h7];by_cases h8:a.stamp=b.stamp
 case neg=>simp [h8]
 rw [κ h8];by_cases h9:a.note=b.note
 case neg=>simp [h9]
 rw [κ h9];simp [h0,h1,h2,h3,h4,h5,h6,h7,h8,h9]
theorem Ml (a b:Ev) (w:World):(binOp .neq 38 (Ga a) (Ga b)).run prog w= .ok (.bool (!G9 a b)) w:=by
 unfold Ga;rw [run_neq_struct];have:=run_evEqual a b w;unfold Ga at this;rw [this];rfl
def Hf (n:Int) (w:World) (x:Ending) (w':World):Prop:=x= .returned (Vi Vk n)∧Below w.heap.size w w'
theorem chk30 {v:Int}  (h:v<1∨5<v):Am v e=30:=by unfold Am;rw [κ h]
theorem chk31 {v:Int}  (h0: ¬ (v<1∨5<v)) (h:e.kind<1∨Dw v<e.kind):Am v e=31:=by unfold Am;rw [γ h0,κ h]
theorem chk24 {v:Int}  (h0: ¬ (v<1∨5<v)) (h1: ¬ (e.kind<1∨Dw v<e.kind)) (h:16<e.who.length∨120<e.note.length):Am v e=24:=by
 unfold Am;rw [γ h0,γ h1,κ h]
theorem chkRest {v:Int}  (h0: ¬ (v<1∨5<v)) (h1: ¬ (e.kind<1∨Dw v<e.kind)) (h2: ¬ (16<e.who.length∨120<e.note.length)):Am v e=if Gj v e=true then 0 else 32:=by
 unfold Am;rw [γ h0,γ h1,γ h2]
theorem refCheck_version (v:Int) (e:Ev) (w:World) (h:v<1∨5<v):Calls prog 20 #[Vi Vk v,Ga e] w (Hf (Am v e) w):=by
 have hf:=Qh (chk30 (e:=e) h);unfold Ga;go_enter func20,ntmps20;go_wp2
 all_goals go_ret
 all_goals exact⟨by rw [hf.out];rfl,(χ _ _).alloc (μ _) _⟩
theorem refCheck_kind (v:Int) (e:Ev) (w:World) (h0:1≤v) (h1:v≤5) (h:e.kind<1∨Dw v<e.kind):Calls prog 20 #[Vi Vk v,Ga e] w (Hf (Am v e) w):=by
 have hf:=Qh (chk31 (e:=e) (show ¬ (v<1∨5<v) by omega) h);unfold Ga;by_cases hk:e.kind<1
 ·have d1:decide (e.kind<1)=true:=by simpa using hk
  clear h;go_enter func20,ntmps20;go_wp2
  go_quiet (fail)
  go_wp2;go_ret;exact⟨by rw [hf.out];rfl,Below.next ((χ _ _).alloc (μ _) _) (Ac _ _)⟩
 ·have hk2:Dw v<e.kind:=by rcases h with h|h;exact absurd h hk;exact h
  have d1:decide (e.kind<1)=false:=by simpa using hk
  have d2:decide (Dw v<e.kind)=true:=by simpa using hk2
  clear h hk hk2;have HL:=Qh (fun W=>refLast_any v W h0 h1);go_enter func20,ntmps20;go_wp2;have hE:=Mx w e 38;have hb1:Below w.heap.size w (w.alloc (.cells #[Vi Vk e.kind,Vi Vk e.order,Vi Vk e.item,Vi Vk e.qty,Vi Vk e.price,Vi Vk e.cur,Vi Vk e.tax,.string ⟨e.who.toArray⟩,Vi Vk e.stamp,.string ⟨e.note.toArray⟩] 38)):=(χ _ _).alloc (μ _) _;have hsz0:w.heap.size<(w.alloc (.cells #[Vi Vk e.kind,Vi Vk e.order,Vi Vk e.item,Vi Vk e.qty,Vi Vk e.price,Vi Vk e.cur,Vi Vk e.tax,.string ⟨e.who.toArray⟩,Vi Vk e.stamp,.string ⟨e.note.toArray⟩] 38)).heap.size:=by simp
  generalize w.alloc (.cells #[Vi Vk e.kind,Vi Vk e.order,Vi Vk e.item,Vi Vk e.qty,Vi Vk e.price,Vi Vk e.cur,Vi Vk e.tax,.string ⟨e.who.toArray⟩,Vi Vk e.stamp,.string ⟨e.note.toArray⟩] 38)=w1 at*;have HE:=Qh hE;have HB1:=Qh hb1;have c0:=hE.c0;clear hE hb1
  go_region_held3 (fun w'=>w'.cell? ⟨w.heap.size,0,none⟩=some (Vi Vk e.kind)) (first|assumption|exact cell_later hb2 c0|go_keep)
   (first|(go_at_call 48;refine(HL.out _).mono ?_;rintro x w2 ⟨rfl,hb2⟩))
  go_wp2;go_ret;exact⟨by rw [hf.out];rfl,Below.next HB1.out (Below.next ((χ _ _).drew) hb2)⟩
theorem refCheck_long (v:Int) (e:Ev) (w:World) (hn:e.who.length≤281474976710656∧e.note.length≤281474976710656) (h0:1≤v) (h1:v≤5) (h2:1≤e.kind) (h3:e.kind≤Dw v) (h:16<e.who.length∨120<e.note.length):
  Calls prog 20 #[Vi Vk v,Ga e] w (Hf (Am v e) w):=by
 have hf:=Qh (chk24 (e:=e) (show ¬ (v<1∨5<v) by omega) (by omega) h);obtain⟨hn1,hn2⟩:=hn;unfold Ga;have d1:decide (e.kind<1)=false:=by simpa using h2
 have d2:decide (Dw v<e.kind)=false:=by simpa using h3
 have HL:=Qh (fun W=>refLast_any v W h0 h1);go_enter func20,ntmps20;go_wp2;have hE:=Mx w e 38;have hb1:Below w.heap.size w (w.alloc (.cells #[Vi Vk e.kind,Vi Vk e.order,Vi Vk e.item,Vi Vk e.qty,Vi Vk e.price,Vi Vk e.cur,Vi Vk e.tax,.string ⟨e.who.toArray⟩,Vi Vk e.stamp,.string ⟨e.note.toArray⟩] 38)):=(χ _ _).alloc (μ _) _;have hsz0:w.heap.size<(w.alloc (.cells #[Vi Vk e.kind,Vi Vk e.order,Vi Vk e.item,Vi Vk e.qty,Vi Vk e.price,Vi Vk e.cur,Vi Vk e.tax,.string ⟨e.who.toArray⟩,Vi Vk e.stamp,.string ⟨e.note.toArray⟩] 38)).heap.size:=by simp
 generalize w.alloc (.cells #[Vi Vk e.kind,Vi Vk e.order,Vi Vk e.item,Vi Vk e.qty,Vi Vk e.price,Vi Vk e.cur,Vi Vk e.tax,.string ⟨e.who.toArray⟩,Vi Vk e.stamp,.string ⟨e.note.toArray⟩] 38)=w1 at*;have HE:=Qh hE;have HB1:=Qh hb1;have c0:=hE.c0;clear hE hb1
 go_region_held3 (fun w'=>w'.cell? ⟨w.heap.size,0,none⟩=some (Vi Vk e.kind)) (first|assumption|exact cell_later hb2 c0|go_keep)
  (first|(go_at_call 48;refine(HL.out _).mono ?_;rintro x w2 ⟨rfl,hb2⟩))
 have HB2:=Qs (Below w.heap.size w w2) (Below.next HB1.out (Below.next ((χ _ _).drew) hb2));have HE2:=Qh (HE.out.below (Below.next ((χ _ _).drew) hb2));have c7:=HE2.out.c7;have c9:=HE2.out.c9;clear hb2 c0;by_cases hw:16<e.who.length
 ·go_wp2;go_ret;exact⟨by rw [hf.out];rfl,HB2.out⟩
 ·have hnn:120<e.note.length:=by omega
  clear h;go_wp2;go_ret;exact⟨by rw [hf.out];rfl,HB2.out⟩
def lnCs (l:Ln):Array Value:= #[Vi Vk l.item,Vi Vk l.price,Vi Vk l.qty,Vi Vk l.shipped]
def stCs (s:St) (lv:Value):Array Value:= #[Vi Vk s.order,Vi Vk s.status,Vi Vk s.prior,Vi Vk s.cur,Vi Vk s.tax,lv,Vi Vk s.paid,Vi Vk s.refunded,Vi Vk s.events,Vi Vk s.refused,Vi Vk s.stamp,.string ⟨s.who.toArray⟩]
def stNone:St:=⟨0,0,0,0,0,[],0,0,0,0,0,[]⟩
def LnIn (A:Nat→Prop) (w:World) (v:Value) (ls:List Ln):Prop:=
 ∃ oa cap,v= .slice oa ls.length cap∧ls.length≤cap∧cap≤9223372036854775807∧(ls≠ []→ ∃ b off,oa=some ⟨b,off,none⟩∧A b∧ ∀ (i:Nat) l,ls[i]? =some l→w.rangeAt b (off+i*4) (lnCs l).toList)
theorem own_setRow {n:Nat} {e:TypeId}  {xs:List Value} (h:w.ownsRow B e size v n xs) (hk:k<B) (cs:Array Value):(w.setRow k cs).ownsRow B e size v n xs:=by
 refine⟨h.1,?_⟩;rcases h.2 with hn|⟨g,cap,cur,rfl,hb1,hg,rest⟩
 ·exact .inl hn
 ·exact .inr ⟨g,cap,cur,rfl,hb1,(setRow_other _ _ _ _ (show ¬ g=k by omega)).trans hg,rest⟩
def StsIn (A:Nat→Prop) (w:World) (v:Value) (ss:List St):Prop:=
 ∃ oa cap,v= .slice oa ss.length cap∧ss.length≤cap∧cap≤maxLen∧(ss≠ []→ ∃ b off,oa=some ⟨b,off,none⟩∧A b∧ ∀ (i:Nat) s,ss[i]? =some s→ ∃ lv,w.rangeAt b (off+i*12) (stCs s lv).toList∧LnIn A w lv s.lines)
def unlineGo:Nat→List UInt8→List Int→Option (List Int×List UInt8)
 |0,b,vs=>some (vs,b)
 |n+1,b,vs=>if (A3 b).2.2≠0 then none else unlineGo n (b.drop (A3 b).2.1) (vs++[E8 (A3 b).1])
def ln0:Ln:=⟨0,0,0,0⟩
def unlineV (b:List UInt8):Ln×Bool:=match unlineGo 4 b [] with
 |none=>(ln0,false)
 |some (vs,r)=>(⟨vs.getD 0 0,vs.getD 1 0,vs.getD 2 0,vs.getD 3 0⟩,decide (r.length=0))
section
open Go.RowKit Go.Maps
def tagQ (k:Int) (f:Ce):Bool:=(f.tag:Int)==k
def restQ (k:Int) (fs:List Ce):List Ce:=fs.filter fun f=> !tagQ k f
def Dt (q:List Ce×Int) (k:Int) (t:Bool):Ce×List Ce×Int:=
 match q.1.find? (tagQ k) with
 |none=>(B9,q)
 |some f=>if f.text=t then (f,restQ k q.1,q.2) else (B9,restQ k q.1,33)
theorem takeP_Q (xs:List (Ce×Value)) (bad k:Int) (t:Bool):Dt (xs.map (·.1),bad) k t=((takeP xs bad k t).1.1,(takeP xs bad k t).2.1.map (·.1),(takeP xs bad k t).2.2):=by
 unfold Dt takeP;dsimp only;have e1:(xs.map (·.1)).find? (tagQ k)=(xs.find? (Ez k)).map (·.1):=by rw [List.find?_map];rfl
 have e2:restQ k (xs.map (·.1))=(Iv k xs).map (·.1):=by unfold restQ Iv;rw [List.filter_map];rfl
 rw [e1,e2];rcases xs.find? (Ez k) with _|x
 ·rfl
 ·dsimp only [Option.map_some];split<;>rfl
def numQ (q:List Ce×Int) (k:Int):Int×List Ce×Int:=(E8 (Dt q k false).1.num,(Dt q k false).2)
def linesQ:Nat→Int→List Ce×Int→Bool→List Ln→List Ln×Bool×List Ce×Int
 |0,_,q,ok,ls=>(ls,ok,q)
 |n+1,k,q,ok,ls=>if (Dt q k true).1.data=[] then (ls,ok,(Dt q k true).2)
  else linesQ n (k+1) (Dt q k true).2 (ok&&(unlineV (Dt q k true).1.data).2) (ls++[(unlineV (Dt q k true).1.data).1])
def errQ (q:List Ce×Int):Int:=if q.2≠0 then q.2 else if q.1=[] then 0 else 20
theorem errR_Q (xs:List (Ce×Value)) (bad:Int):errR xs bad=errQ (xs.map (·.1),bad):=by
 unfold errR errQ;cases xs<;>simp
def numsQ:Nat→Int→List Ce×Int→List Int→List Int×List Ce×Int
 |0,_,q,vs=>(vs,q)
 |n+1,k,q,vs=>numsQ n (k+1) (numQ q k).2 (vs++[(numQ q k).1])
def stOf (vs:List Int) (ls:List Ln) (who:List UInt8):St:=⟨vs.getD 0 0,vs.getD 1 0,vs.getD 2 0,vs.getD 3 0,vs.getD 4 0,ls,vs.getD 5 0,vs.getD 6 0,vs.getD 7 0,vs.getD 8 0,vs.getD 9 0,who⟩
def decSt (b:List UInt8):St×Int:=
 if (tlvDec b).1≠0 then (stNone,(tlvDec b).1)
 else
  let ns:=numsQ 10 1 ((tlvDec b).2,0) []
  let tx:=Dt ns.2 11 true
  let ls:=linesQ 16 12 tx.2 true []
  if errQ ls.2.2≠0 then (stNone,errQ ls.2.2)
  else if ls.2.1&&validB (stOf ns.1 ls.1 tx.1.data) then (stOf ns.1 ls.1 tx.1.data,0) else (stNone,40)
end
theorem decGo_enc (r:List UInt8): ∀ (n i u:Nat),i≤9→n*128^i<18446744073709551616→(0<i→0<n)→Gd i u (A7 n++r)=(u+n*128^i,i+(A7 n).length,0):=by
 intro n
 induction n using Nat.strongRecOn with
 |ind n ih=>
  intro i u hi hb h0;have h9:(128:Nat)^9=9223372036854775808:=by decide
  by_cases hl:n<128
  ·rw [encV_low hl,List.singleton_append,Gd];have hn:(UInt8.ofNat n).toNat=n:=by rw [UInt8.toNat_ofNat'];omega
   rw [hn,γ,γ (by omega),γ,Nat.mod_eq_of_lt hl]
   ·rfl
   ·rintro⟨a,b⟩;have:=h0 b;omega
   ·rintro⟨rfl,h1⟩;rw [h9] at hb;omega
  ·rw [encV_high hl,List.cons_append,Gd];have hm:n % 128<128:=Nat.mod_lt _ (by decide);have hn:(UInt8.ofNat (128+n % 128)).toNat=128+n % 128:=by rw [UInt8.toNat_ofNat'];omega
   have hd:n=128*(n / 128)+n % 128:=(Nat.div_add_mod n 128).symm;have hp:128^(i+1)=128^i*128:=Nat.pow_succ ..;have hi8:i≤8:=by
    rcases Nat.lt_or_ge i 9 with h|h
    ·omega
    ·have e:i=9:=by omega
     subst e;rw [h9] at hb;omega
   rw [hn,γ (by omega),κ (by omega)];have hq:n / 128*128^(i+1)≤n*128^i:=by
    rw [hp,←Nat.mul_assoc,Nat.mul_right_comm];exact Nat.mul_le_mul_right _ (Nat.div_mul_le_self n 128)
   rw [ih (n / 128) (by omega) (i+1) _ (by omega) (by omega) (fun _=>by omega),τ];have e1:(128+n % 128) % 128=n % 128:=by omega
   have e2:u+n % 128*128^i+n / 128*128^(i+1)=u+n*128^i:=by
    rw [hp,←Nat.mul_assoc,Nat.mul_right_comm,Nat.add_assoc,←Nat.add_mul];congr 2;omega
   rw [e1,e2];congr 2;omega
theorem G0 {n:Nat} (h:n<18446744073709551616) (r:List UInt8):A3 (A7 n++r)=(n,(A7 n).length,0):=by
 have:=decGo_enc r n 0 0 (by omega) (by simpa using h) (fun h=>by omega);unfold A3;rw [this];simp
theorem leNat_le8 (n:Nat): ∀ k,Hi (le8 n k)=n % 256^k
 |0=>by simp [le8,Hi,Nat.mod_one]
 |k+1=>by
  rw [le8_succ,leNat_snoc,leNat_le8 n k,Mz,UInt8.toNat_ofNat']
  have:n / 256^k % 256 % 2^8=n / 256^k % 256:=by omega
  rw [this,Nat.pow_succ,show n % (256^k*256)=n % 256^k+256^k*(n / 256^k % 256) from Nat.mod_mul,Nat.mul_comm (256^k)]
theorem Kg {a:List UInt8} (h:i<a.length):Ci (a++b) i=Ci a i:=by
 unfold Ci;rw [List.getD_eq_getElem?_getD,List.getD_eq_getElem?_getD,List.getElem?_append_left h]
theorem crcOk_app (b:List UInt8):K3 (b++Ew (Gg b))=true:=by
 unfold K3;have hl:(b++Ew (Gg b)).length=b.length+4:=by rw [ζ,G4]
 rw [hl,Nat.add_sub_cancel,List.drop_left,List.take_left];simp
theorem decF_enc {s:Nat} (hk:1≤k∧k≤7) (hs:s≤1099511627776) (hb:body.length≤16384) (r:List UInt8):Cg (By k s body++r)=(⟨k,s,body⟩,body.length+20,0):=by
 obtain⟨H,hH⟩: ∃ H,H=N0 k body.length s:=⟨_,rfl⟩;have hHl:H.length=12:=by rw [hH];exact N1 _ _ _
 have hF:By k s body++r=(H++Ew (Gg H))++((body++Ew (Gg body))++r):=by
  unfold By;rw [←hH];simp only [List.append_assoc]
 have h16:(H++Ew (Gg H)).length=16:=by rw [ζ,hHl,G4]
 have hln:(By k s body++r).length=body.length+20+r.length:=by rw [ζ,Az]
 have ht16:(By k s body++r).take 16=H++Ew (Gg H):=by rw [hF,←h16,List.take_left]
 have hby: ∀ i,i<12→Ci (By k s body++r) i=Ci H i:=fun i hi=>by
  rw [hF,Kg (by omega),Kg (by omega)]
 have b0:Ci H 0=165:=by rw [hH];rfl
 have b1:Ci H 1=k:=by
  rw [hH];show (UInt8.ofNat k).toNat=k;rw [UInt8.toNat_ofNat'];omega
 have b2:Ci H 2=body.length % 256:=by
  rw [hH];show (UInt8.ofNat (body.length % 256)).toNat=_;rw [UInt8.toNat_ofNat'];omega
 have b3:Ci H 3=body.length / 256:=by
  rw [hH];show (UInt8.ofNat (body.length / 256)).toNat=_;rw [UInt8.toNat_ofNat'];omega
 have hle:Hi (((By k s body++r).drop 4).take 8)=s:=by
  have:((By k s body++r).drop 4).take 8=le8 s 8:=by
   rw [hF,hH];unfold N0;simp only [List.append_assoc,List.cons_append,List.nil_append,List.drop_succ_cons,List.drop_zero];rw [List.take_append_of_le_length (by rw [Mz];exact μ _),List.take_of_length_le (by rw [Mz];exact μ _)]
  rw [this,leNat_le8];exact Nat.mod_eq_of_lt (by omega)
 have hlen:body.length % 256+body.length / 256*256=body.length:=by omega
 have hp:Db (By k s body++r)=(k,s,body.length+20,0):=by
  unfold Db;rw [hby 0 (by decide),hby 1 (by decide),hby 2 (by decide),hby 3 (by decide),b0,b1,b2,b3,ht16,crcOk_app,hle,hlen];rw [γ (by omega),γ (by decide),γ (by decide),γ (by omega)]
 have hd:((By k s body++r).take (body.length+20)).drop 16=body++Ew (Gg body):=by
  have e:(By k s body++r).take (body.length+20)=By k s body:=by rw [←Az k s body,List.take_left]
  rw [e];have e2:By k s body=(H++Ew (Gg H))++(body++Ew (Gg body)):=by
   unfold By;rw [←hH];simp only [List.append_assoc]
  rw [e2,←h16,List.drop_left]
 unfold Cg;rw [hp];simp only [ne_eq,not_true_eq_false,if_false];rw [γ (by omega),hd,crcOk_app];simp only [Bool.true_eq_false,if_false];rw [Nat.add_sub_cancel,List.take_left]
theorem wholeF_enc {s:Nat} (hk:1≤k∧k≤7) (hs:s≤1099511627776) (hb:body.length≤16384):Dq (By k s body) k=(⟨k,s,body⟩,0):=by
 have h:=decF_enc hk hs hb [];rw [List.append_nil] at h;unfold Dq;rw [h,Az];simp
theorem decNs_enc: ∀ (us:List Nat) (b:List UInt8) (a:Nat) (pre:List Nat) (r:List UInt8),(∀ u∈us,u<18446744073709551616)→b.drop a=us.flatMap A7++r→Lt us.length b a pre=(pre++us,a+(us.flatMap A7).length,0)
 | [],b,a,pre,r,_,_=>by simp [Lt]
 |u::us,b,a,pre,r,h,hd=>by
  rw [List.flatMap_cons,List.append_assoc] at hd
  have hu:=G0 (h u (by simp)) (us.flatMap A7++r)
  rw [←hd] at hu
  rw [τ,decNs_go (by rw [hu]),hu]
  have hd2:b.drop (a+(A7 u).length)=us.flatMap A7++r:=by rw [←List.drop_drop,hd,List.drop_left]
  rw [decNs_enc us b _ (pre++[u]) r (fun x hx=>h x (by simp [hx])) hd2,List.flatMap_cons,ζ]
  simp [Nat.add_assoc]
theorem decAll_enc (h: ∀ u∈us,u<18446744073709551616) (hl:us.length≤most) (hl2:us.length<18446744073709551616) (r:List UInt8):Dd (Ej us++r) most=(us,(Ej us).length,0):=by
 have h1:=G0 hl2 (us.flatMap A7++r);have e:Ej us++r=A7 us.length++(us.flatMap A7++r):=by unfold Ej;rw [List.append_assoc]
 unfold Dd;rw [e,h1];simp only [ne_eq,not_true_eq_false,if_false];rw [γ (by omega),decNs_enc us _ _ [] r h (by rw [List.drop_left])];unfold Ej;rw [ζ];simp
theorem hdrOf_enc {num:Nat} (h1:1≤num∧num≤999999) (h2:1≤first∧first≤1099511627777) (r:List UInt8):
  B5 ((Hs num first).1++r)=(num,first,(Hs num first).1.length,0):=by
 rw [hdrEnc_ok (by omega) (by omega) (by omega) (by omega)];simp only [Int.toNat_natCast];have hb:(A7 num++A7 first).length≤16384:=by
  have:=De (show num<18446744073709551616 by omega);have:=De (show first<18446744073709551616 by omega);rw [ζ];omega
 have hd:=decF_enc (k:=2) (s:=num) (by decide) (by omega) hb r;have hu:Ck 2 (A7 num++A7 first) []=some ([num,first],[]):=by
  have e1:=G0 (show num<18446744073709551616 by omega) (A7 first);have e2:=G0 (show first<18446744073709551616 by omega) [];rw [List.append_nil] at e2;rw [Jr (by rw [e1];simp only;omega),e1];simp only [List.drop_left];rw [Jr (by rw [e2];simp only;omega),e2];simp [Ck]
 unfold B5;rw [hd,Az];simp only [ne_eq,not_true_eq_false,or_self,if_false,hu];unfold hdrIn;simp only;rw [γ];rintro(h|h|h)
 ·exact h rfl
 ·exact h rfl
 ·unfold rightB at h;simp only [Bool.and_eq_false_iff,decide_eq_false_iff_not] at h;omega
theorem fours_segs: ∀ l:List Sg,(∀ g∈l,0≤g.num∧0≤g.first∧0≤g.count∧0≤g.foot)→(G1 (l.flatMap Pq)).map segOf=l
 | [],_=>rfl
 |g::l,h=>by
  have hg:=h g (by simp)
  rw [List.flatMap_cons]
  show (G1 (g.num.toNat::g.first.toNat::g.count.toNat::g.foot.toNat::l.flatMap Pq)).map segOf=_
  rw [G1,List.map_cons,fours_segs l fun x hx=>h x (by simp [hx])]
  congr 1
  show (⟨(g.num.toNat:Int),(g.first.toNat:Int),(g.count.toNat:Int),(g.foot.toNat:Int)⟩:Sg)=g
  obtain⟨a,b,c,d⟩:=g
  simp only at hg
  simp only [Sg.mk.injEq]
  omega
theorem maxU_lt {us:List Nat} {b:Nat} (h: ∀ u∈us,u≤b):maxU us≤b:=by
 suffices h2: ∀ (us:List Nat) (a:Nat),a≤b→(∀ u∈us,u≤b)→us.foldl Nat.max a≤b from h2 us 0 (θ _) h
 intro us
 induction us with
 |nil=>intro a ha _;exact ha
 |cons x r ih=>intro a ha hu;exact ih _ (Nat.max_le.2 ⟨ha,hu x (by simp)⟩) fun y hy=>hu y (by simp [hy])
theorem Mv {m:Da} (h:Cy m=true):B2 (Ct m).1=(m,0):=by
 have hf:=Cj h;have hg:=hf.gen;rw [encMan_ok h];have hlt:=manNums_lt hf;have hln:=M0 m;have hl:=hf.len;have hne:1≤m.segs.length:=by
  have:=(Mt _ _ _ _ hf.chain);obtain⟨g,_,_,_,_,hm⟩:=this;exact Ψ.2 (List.ne_nil_of_mem hm)
 have hbl:=manBody_len hf;have hw:=wholeF_enc (k:=4) (s:=m.gen.toNat) (by decide) (by omega) (η hbl (by decide));have hd:=decAll_enc (us:=manNums m) (most:=1028) (fun u hu=>Nat.lt_trans (hlt u hu) (by decide)) (by omega) (by omega) [];rw [List.append_nil] at hd;have hmo:manOf m.gen.toNat (manNums m)=m:=by
  unfold manOf;have e:(manNums m).drop 4=m.segs.flatMap Pq:=rfl;rw [e,fours_segs m.segs fun g hgm=>by have:=hf.seg g hgm;omega];show (⟨(m.gen.toNat:Int),(m.next.toNat:Int),(m.floor.toNat:Int),(m.snap.toNat:Int),(m.snapSeq.toNat:Int),m.segs⟩:Da)=m;have h1:=hf.next;have h2:=hf.floor;have h3:=hf.snap;have h4:=hf.snapSeq;obtain⟨a,b,c,d,e,g⟩:=m;simp only at hg h1 h2 h3 h4;simp only [Da.mk.injEq,and_true];omega
 unfold B2;simp only;rw [hw];simp only [ne_eq,not_true_eq_false,if_false];rw [hd,γ,hmo,κ h];unfold Gi;have hmx:=maxU_lt (us:=manNums m) (b:=2199023255552) fun u hu=>Nat.le_of_lt (by have:=hlt u hu;omega);simp only;omega
def Hl (fl:List J6):List UInt8:=fl.flatMap fun f=>By f.k f.s f.body
def FrmOk (f:J6):Prop:=(1≤f.k∧f.k≤7)∧f.s≤1099511627776∧f.body.length≤16384
def Fc:Nat→List J6→List (Nat×J6)
 |_,[]=>[]
 |p,f::r=>(p,f)::Fc (p+f.body.length+20) r
theorem Iu (f:J6) (r:List J6):Hl (f::r)=By f.k f.s f.body++Hl r:=by simp [Hl]
theorem Pc (a b:List J6):Hl (a++b)=Hl a++Hl b:=by simp [Hl]
theorem Fy: ∀ (fl:List J6) (p:Nat),(Fc p fl).length=fl.length
 | [],_=>rfl
 |f::r,p=>by rw [Fc,τ,Fy r,τ]
theorem frsGo_lay (rest:List UInt8) (hr:rest=[]∨(Cg rest).2.2≠0): ∀ (fl:List J6) (n:Nat) (b:List UInt8) (p:Nat),(∀ f∈fl,FrmOk f)→b.drop p=Hl fl++rest→b.length≤p+n→Hh n b p=Fc p fl
 | [],n,b,p,_,hd,hn=>by
  rw [show Hl []=[] from rfl,List.nil_append] at hd
  rcases hr with h|h
  ·rw [h] at hd
   rw [Oc (by have:=congrArg List.length hd;simp at this;omega),Fc]
  ·rw [frsGo_bad (by rw [hd];exact h),Fc]
 |f::r,n,b,p,hf,hd,hn=>by
  obtain⟨h1,h2,h3⟩:=hf f (by simp)
  rw [Iu,List.append_assoc] at hd
  have hde:=decF_enc h1 h2 h3 (Hl r++rest)
  rw [←hd] at hde
  have hlt:p<b.length:=by
   have:=congrArg List.length hd;rw [Λ,ζ,Az] at this;omega
  obtain⟨n',rfl⟩: ∃ n',n=n'+1:=⟨n - 1,by omega⟩;have hd2:b.drop (p+(f.body.length+20))=Hl r++rest:=by rw [←List.drop_drop,hd,←Az f.k f.s f.body,List.drop_left]
  rw [O7 hlt (by rw [hde]),hde,Fc,frsGo_lay rest hr r n' b _ (fun x hx=>hf x (by simp [hx])) hd2 (by omega)];rfl
theorem frs_lay {fl:List J6} {rest:List UInt8} (hf: ∀ f∈fl,FrmOk f) (hr:rest=[]∨(Cg rest).2.2≠0):frs (Hl fl++rest)=Fc 0 fl:=
 frsGo_lay rest hr fl _ _ 0 hf (by rw [List.drop_zero]) (by omega)
theorem takeRun_all {first most:Nat}: ∀ (fl:List J6) (p c:Nat),(∀ (i:Nat) f,fl[i]? =some f→f.k=1∧f.s=first+c+i)→c+fl.length≤most→takeRun first most c (Fc p fl)=Fc p fl
 | [],_,_,_,_=>by rw [Fc,takeRun]
 |f::r,p,c,h,hm=>by
  obtain⟨h1,h2⟩:=h 0 f rfl
  rw [τ] at hm
  rw [Fc]
  by_cases hc:c+1=most
  ·have hr:r=[]:=List.length_eq_zero_iff.1 (by omega)
   subst hr
   rw [take_full (by simp only;omega) hc,Fc]
  ·rw [take_go (by simp only;omega) hc,takeRun_all r _ (c+1) (fun i x hx=>by
    have:=h (i+1) x (by simpa using hx)
    omega) (by omega)]
theorem lastEnd_lay: ∀ (fl:List J6) (p:Nat),Cd p (Fc p fl)=p+(Hl fl).length
 | [],p=>by rw [Fc,Cd];rfl
 |f::r,p=>by
  rw [Fc,Cd,lastEnd_lay r,Iu,ζ,Az]
  simp only
  omega
theorem H8 (x lo hi:Int) (w:World):Calls prog 231 #[Vi Vk x,Vi Vk lo,Vi Vk hi] w fun e w'=>e= .returned (.bool (Ms x lo hi))∧w=w':=by
 by_cases h1:lo≤x
 ·by_cases h2:x≤hi
  ·have hr:=Qs (Ms x lo hi=true) (by simp [Ms,h1,h2]);have d1:=ξ h1;have d2:=ξ h2;go_enter func231,ntmps231;go_wp2;go_ret;exact⟨by rw [hr.out];rfl,rfl⟩
  ·have hr:=Qs (Ms x lo hi=false) (by simp [Ms,h2]);have d1:=ξ h1;have d2:=ρ h2;go_enter func231,ntmps231;go_wp2;go_ret;exact⟨by rw [hr.out];rfl,rfl⟩
 ·have hr:=Qs (Ms x lo hi=false) (by simp [Ms,h1]);have d1:=ρ h1;go_enter func231,ntmps231;go_wp2;go_ret;exact⟨by rw [hr.out];rfl,rfl⟩
def coreB (e:Ev) (least dear:Int):Bool:=Ms e.order 1 1099511627776&&Ms e.item 0 65535&&Ms e.qty least 10000&&Ms e.price 0 dear
@[reducible] def v1V (e : Ev) : Value := .agg #[Vi Vk e.kind, Vi Vk e.order, Vi Vk e.item, Vi Vk e.qty, Vi Vk e.price]
@[reducible] def v2V (e : Ev) : Value := .agg #[Vi Vk e.kind, Vi Vk e.order, Vi Vk e.item, Vi Vk e.qty, Vi Vk e.price, Vi Vk e.cur]
@[reducible] def v3V (e : Ev) : Value := .agg #[Vi Vk e.kind, Vi Vk e.order, Vi Vk e.item, Vi Vk e.qty, Vi Vk e.price, Vi Vk e.cur, Vi Vk e.tax]
@[reducible] def v4V (e : Ev) : Value := .agg #[Vi Vk e.kind, Vi Vk e.order, Vi Vk e.item, Vi Vk e.qty, Vi Vk e.price, Vi Vk e.cur, Vi Vk e.tax, .string ⟨e.who.toArray⟩]
@[reducible] def v5V (e : Ev) : Value := .agg #[Vi Vk e.kind, Vi Vk e.order, Vi Vk e.item, Vi Vk e.qty, Vi Vk e.price, Vi Vk e.cur, Vi Vk e.tax, .string ⟨e.who.toArray⟩, Vi Vk e.stamp, .string ⟨e.note.toArray⟩]
theorem core_any (e:Ev) (least dear:Int) (w:World):Calls prog 227 #[v1V e,Vi Vk least,Vi Vk dear] w fun x w'=>x= .returned (.bool (coreB e least dear))∧Below w.heap.size w w':=by
 obtain⟨b1,hb1⟩: ∃ b,b=Ms e.order 1 1099511627776:=⟨_,rfl⟩;obtain⟨b2,hb2⟩: ∃ b,b=Ms e.item 0 65535:=⟨_,rfl⟩;obtain⟨b3,hb3⟩: ∃ b,b=Ms e.qty least 10000:=⟨_,rfl⟩;obtain⟨b4,hb4⟩: ∃ b,b=Ms e.price 0 dear:=⟨_,rfl⟩;have hr:=Qs (coreB e least dear=(b1&&b2&&b3&&b4)) (by rw [coreB,hb1,hb2,hb3,hb4]);have W1:=Qh (fun W=>hb1▸H8 e.order 1 1099511627776 W);have W2:=Qh (fun W=>hb2▸H8 e.item 0 65535 W);have W3:=Qh (fun W=>hb3▸H8 e.qty least 10000 W);have W4:=Qh (fun W=>hb4▸H8 e.price 0 dear W);clear hb1 hb2 hb3 hb4;cases b1<;>cases b2<;>cases b3<;>cases b4
 all_goals
  go_enter func227,ntmps227
  go_wp2_with (first
   |(go_at_call 231;(with_reducible refine(W1.out _).mono ?_);rintro x w' ⟨rfl,rfl⟩)
   |(go_at_call 231;(with_reducible refine(W2.out _).mono ?_);rintro x w' ⟨rfl,rfl⟩)
   |(go_at_call 231;(with_reducible refine(W3.out _).mono ?_);rintro x w' ⟨rfl,rfl⟩)
   |(go_at_call 231;(with_reducible refine(W4.out _).mono ?_);rintro x w' ⟨rfl,rfl⟩))
  go_ret;exact⟨by rw [hr.out];rfl,(χ _ _).alloc (μ _) _⟩
theorem last1_any (e:Ev) (w:World):Calls prog 225 #[v1V e] w fun x w'=>x= .returned (Vi Vk 5)∧Below w.heap.size w w':=by
 unfold v1V;go_enter func225,ntmps225;go_wp2;go_ret;exact⟨rfl,(χ _ _).alloc (μ _) _⟩
theorem last3_any (e:Ev) (w:World):Calls prog 238 #[v3V e] w fun x w'=>x= .returned (Vi Vk 7)∧Below w.heap.size w w':=by
 unfold v3V;go_enter func238,ntmps238;go_wp2;go_ret;exact⟨rfl,(χ _ _).alloc (μ _) _⟩
theorem last4_any (e:Ev) (w:World):Calls prog 242 #[v4V e] w fun x w'=>x= .returned (Vi Vk 9)∧Below w.heap.size w w':=by
 unfold v4V;go_enter func242,ntmps242;go_wp2;go_ret;exact⟨rfl,(χ _ _).alloc (μ _) _⟩
theorem last5_any (e:Ev) (w:World):Calls prog 248 #[v5V e] w fun x w'=>x= .returned (Vi Vk 10)∧Below w.heap.size w w':=by
 unfold v5V;go_enter func248,ntmps248;go_wp2;go_ret;exact⟨rfl,(χ _ _).alloc (μ _) _⟩
theorem plain_any (s:List UInt8) (w:World) (hs:s.length≤9223372036854775000):Calls prog 244 #[.string ⟨s.toArray⟩] w fun x w'=>x= .returned (.bool (Hc s))∧Below w.heap.size w w':=by
 go_enter func244,ntmps244;go_wp2;go_loopw [7] (fun i wr=> ∃ k:Nat,k≤s.length∧i= Vi Vk k∧Hid (Hc (s.take k)=true)∧w=wr) (fun i _=>s.length - (intOf i).toNat)
 case atStart=>exact⟨0,by omega,rfl,Qh rfl,rfl⟩
 case round=>
  obtain⟨k,hk,rfl,HP,rfl⟩:=hrel;by_cases hlt:k<s.length
  ·obtain⟨x,hx,ht,hmem⟩:=Pj s k hlt;have gx: ∀ hh,(⟨s.toArray⟩:ByteArray)[k]'hh=x:=ba_get hx;have HX:=Qs (Hc (s.take (k+1))=M3 x) (by
    rw [ht];unfold Hc;rw [List.all_append];have:=HP.out;unfold Hc at this;rw [this];simp)
   have hxl:=x.toNat_lt;have hno:Hid (M3 x=false→Hc s=false):=Qh fun h=>by
    rw [←Bool.not_eq_true];intro h2;have:=List.all_eq_true.1 h2 x hmem;rw [h] at this;cases this
   clear hx ht hmem;have hpc:Hid (M3 x=true↔x.toNat=45∨(48≤x.toNat∧x.toNat≤57)∨(97≤x.toNat∧x.toNat≤122)):=Qh (by
    simp only [M3,Bool.or_eq_true,Bool.and_eq_true,beq_iff_eq,decide_eq_true_eq];omega)
   by_cases hp:M3 x=true
   ·have hpa:=hpc.out.1 hp;have HP2:=Qh (HX.out.trans hp);clear hp;by_cases h45:x.toNat=45
    ·have k45:((x.toNat:Int) != 45)=false:=by rw [bne_eq_false_iff_eq];omega
     clear hpa h45;go_wp2;go_roundw
     case rel=>exact⟨k+1,by omega,by go_num,HP2,trivial⟩
     case measure=>simp [intOf];omega
    ·have k45:((x.toNat:Int) != 45)=true:=by rw [bne_iff_ne];omega
     by_cases h57:x.toNat≤57
     ·have hr:48≤x.toNat:=by omega
      have t48:decide ((x.toNat:Int)<48)=false:=by simp;omega
      have t57:decide ((57:Int)<x.toNat)=false:=by simp;omega
      have t97:decide ((x.toNat:Int)<97)=true:=by simp;omega
      have t122:decide ((122:Int)<x.toNat)=false:=by simp;omega
      clear hpa h45 h57 hr;go_wp2;go_roundw
      case rel=>exact⟨k+1,by omega,by go_num,HP2,trivial⟩
      case measure=>simp [intOf];omega
     ·have hr:97≤x.toNat∧x.toNat≤122:=by omega
      have t48:decide ((x.toNat:Int)<48)=false:=by simp;omega
      have t57:decide ((57:Int)<x.toNat)=true:=by simp;omega
      have t97:decide ((x.toNat:Int)<97)=false:=by simp;omega
      have t122:decide ((122:Int)<x.toNat)=false:=by simp;omega
      clear hpa h45 h57 hr;go_wp2;go_roundw
      case rel=>exact⟨k+1,by omega,by go_num,HP2,trivial⟩
      case measure=>simp [intOf];omega
   ·have hpa: ¬ (x.toNat=45∨(48≤x.toNat∧x.toNat≤57)∨(97≤x.toNat∧x.toNat≤122)):=fun h=>hp (hpc.out.2 h);have hfin:=Qh (hno.out (by simpa using hp));have k45:((x.toNat:Int) != 45)=true:=by rw [bne_iff_ne];omega
    clear hp;by_cases h48:x.toNat<48
    ·have hr:x.toNat<48:=h48;have t48:decide ((x.toNat:Int)<48)=true:=by simp;omega
     have t57:decide ((57:Int)<x.toNat)=false:=by simp;omega
     have t97:decide ((x.toNat:Int)<97)=true:=by simp;omega
     have t122:decide ((122:Int)<x.toNat)=false:=by simp;omega
     clear hpa h48 hr;go_wp2;go_ret;exact⟨by rw [hfin.out];rfl,χ _ _⟩
    ·by_cases h97:x.toNat<97
     ·have hr:57<x.toNat:=by omega
      have t48:decide ((x.toNat:Int)<48)=false:=by simp;omega
      have t57:decide ((57:Int)<x.toNat)=true:=by simp;omega
      have t97:decide ((x.toNat:Int)<97)=true:=by simp;omega
      have t122:decide ((122:Int)<x.toNat)=false:=by simp;omega
      clear hpa h48 h97 hr;go_wp2;go_ret;exact⟨by rw [hfin.out];rfl,χ _ _⟩
     ·have hr:122<x.toNat:=by omega
      have t48:decide ((x.toNat:Int)<48)=false:=by simp;omega
      have t57:decide ((57:Int)<x.toNat)=true:=by simp;omega
      have t97:decide ((x.toNat:Int)<97)=false:=by simp;omega
      have t122:decide ((122:Int)<x.toNat)=true:=by simp;omega
      clear hpa h48 h97 hr;go_wp2;go_ret;exact⟨by rw [hfin.out];rfl,χ _ _⟩
  ·obtain rfl:k=s.length:=by omega
   have hfin:=Qs (Hc s=true) (by simpa using HP.out);go_wp2;go_ret;exact⟨by rw [hfin.out];rfl,χ _ _⟩
def fitsV1 (e:Ev):Bool:=coreB e (-10000) 1000000
def fits2 (e:Ev):Bool:=coreB e (-10000) 100000000&&Ms e.cur 0 3
def fits3 (e:Ev):Bool:=fits2 e&&decide (0≤e.qty)&&Ms e.tax 0 5000
def fits4 (e:Ev):Bool:=fits3 e&&Hc e.who
def fits5 (e:Ev):Bool:=fits4 e&&Ms e.stamp 0 1099511627776
theorem fits1_any (e:Ev) (w:World):Calls prog 224 #[v1V e] w fun x w'=>x= .returned (.bool (fitsV1 e))∧Below w.heap.size w w':=by
 unfold v1V;go_enter func224,ntmps224;go_wp2_with fail;refine(core_any e _ _ _).mono ?_;rintro x w2 ⟨rfl,hb⟩;go_wp2;go_ret;exact⟨rfl,Below.next ((χ _ _).alloc (μ _) _) hb⟩
theorem fits2_any (e:Ev) (w:World):Calls prog 234 #[v2V e] w fun x w'=>x= .returned (.bool (fits2 e))∧Below w.heap.size w w':=by
 obtain⟨b1,hb1⟩: ∃ b,b=coreB e (-10000) 100000000:=⟨_,rfl⟩;obtain⟨b2,hb2⟩: ∃ b,b=Ms e.cur 0 3:=⟨_,rfl⟩;have hr:=Qs (fits2 e=(b1&&b2)) (by rw [fits2,hb1,hb2]);have W1:=Qh (fun W=>hb1▸core_any e (-10000) 100000000 W);have W2:=Qh (fun W=>hb2▸H8 e.cur 0 3 W);clear hb1 hb2;cases b1<;>cases b2
 all_goals
  unfold v2V;go_enter func234,ntmps234;go_wp2_with fail;refine(W1.out _).mono ?_;rintro x w2 ⟨rfl,hb⟩;have c1:w2.cell? ⟨w.heap.size,5,none⟩=some (Vi Vk e.cur):=cell_later hb (by rw [World.cell?_alloc_new];rfl);have HB:=Qh hb;clear hb;go_wp2_with (first|(go_at_call 231;(with_reducible refine(W2.out _).mono ?_);rintro x w' ⟨rfl,rfl⟩));go_ret;exact⟨by rw [hr.out];rfl,Below.next ((χ _ _).alloc (μ _) _) HB.out⟩
theorem fits3_any (e:Ev) (w:World):Calls prog 237 #[v3V e] w fun x w'=>x= .returned (.bool (fits3 e))∧Below w.heap.size w w':=by
 obtain⟨b1,hb1⟩: ∃ b,b=fits2 e:=⟨_,rfl⟩;obtain⟨b2,hb2⟩: ∃ b,b=decide (0≤e.qty):=⟨_,rfl⟩;obtain⟨b3,hb3⟩: ∃ b,b=Ms e.tax 0 5000:=⟨_,rfl⟩;have hr:=Qs (fits3 e=(b1&&b2&&b3)) (by rw [fits3,hb1,hb2,hb3]);have W1:=Qh (fun W=>hb1▸fits2_any e W);have W2:=Qh (fun W=>hb3▸H8 e.tax 0 5000 W);clear hb1 hb3;cases b1<;>cases b2<;>cases b3
 all_goals
  have k:=hb2.symm;clear hb2;unfold v3V;go_enter func237,ntmps237;go_wp2_with fail;refine(W1.out _).mono ?_;rintro x w2 ⟨rfl,hb⟩;have c1:w2.cell? ⟨w.heap.size,3,none⟩=some (Vi Vk e.qty):=cell_later hb (by rw [World.cell?_alloc_new];rfl);have c2:w2.cell? ⟨w.heap.size,6,none⟩=some (Vi Vk e.tax):=cell_later hb (by rw [World.cell?_alloc_new];rfl);have HB:=Qh hb;clear hb;go_wp2_with (first|(go_at_call 231;(with_reducible refine(W2.out _).mono ?_);rintro x w' ⟨rfl,rfl⟩));go_ret;exact⟨by rw [hr.out];rfl,Below.next ((χ _ _).alloc (μ _) _) HB.out⟩
theorem fits4_any (e:Ev) (w:World) (hs:e.who.length≤9223372036854775000):Calls prog 241 #[v4V e] w fun x w'=>x= .returned (.bool (fits4 e))∧Below w.heap.size w w':=by
 obtain⟨b1,hb1⟩: ∃ b,b=fits3 e:=⟨_,rfl⟩;obtain⟨b2,hb2⟩: ∃ b,b=Hc e.who:=⟨_,rfl⟩;have hr:=Qs (fits4 e=(b1&&b2)) (by rw [fits4,hb1,hb2]);have W1:=Qh (fun W=>hb1▸fits3_any e W);have W2:=Qh (fun W=>hb2▸plain_any e.who W hs);clear hb1 hb2;cases b1<;>cases b2
 all_goals
  unfold v4V;go_enter func241,ntmps241;go_wp2_with fail;refine(W1.out _).mono ?_;rintro x w2 ⟨rfl,hb⟩;have c1:w2.cell? ⟨w.heap.size,7,none⟩=some (.string ⟨e.who.toArray⟩):=cell_later hb (by rw [World.cell?_alloc_new];rfl);have HB:=Qh (Below.next ((χ _ _).alloc (μ _) _) hb);clear hb;go_wp2_with (first|(go_at_call 244;(with_reducible refine(W2.out _).mono ?_);rintro x w3 ⟨rfl,hb3⟩));go_ret;exact⟨by rw [hr.out];rfl,by first|exact Below.next HB.out hb3|exact HB.out⟩
theorem fits5_any (e:Ev) (w:World) (hs:e.who.length≤9223372036854775000):Calls prog 247 #[v5V e] w fun x w'=>x= .returned (.bool (fits5 e))∧Below w.heap.size w w':=by
 obtain⟨b1,hb1⟩: ∃ b,b=fits4 e:=⟨_,rfl⟩;obtain⟨b2,hb2⟩: ∃ b,b=Ms e.stamp 0 1099511627776:=⟨_,rfl⟩;have hr:=Qs (fits5 e=(b1&&b2)) (by rw [fits5,hb1,hb2]);have W1:=Qh (fun W=>hb1▸fits4_any e W hs);have W2:=Qh (fun W=>hb2▸H8 e.stamp 0 1099511627776 W);clear hb1 hb2;cases b1<;>cases b2
 all_goals
  unfold v5V;go_enter func247,ntmps247;go_wp2_with fail;refine(W1.out _).mono ?_;rintro x w2 ⟨rfl,hb⟩;have c1:w2.cell? ⟨w.heap.size,8,none⟩=some (Vi Vk e.stamp):=cell_later hb (by rw [World.cell?_alloc_new];rfl);have HB:=Qh hb;clear hb;go_wp2_with (first|(go_at_call 231;(with_reducible refine(W2.out _).mono ?_);rintro x w' ⟨rfl,rfl⟩));go_ret;exact⟨by rw [hr.out];rfl,Below.next ((χ _ _).alloc (μ _) _) HB.out⟩
def ev1 (e:Ev):Ev:={e with cur:=0,tax:=0,who:=[],stamp:=0,note:=[]}
def ev2 (e:Ev):Ev:={e with tax:=0,who:=[],stamp:=0,note:=[]}
def ev3 (e:Ev):Ev:={e with who:=[],stamp:=0,note:=[]}
def ev4 (e:Ev):Ev:={e with stamp:=0,note:=[]}
theorem event1_x (e:Ev) (w:World):Calls prog 222 #[v1V e] w fun x w'=>x= .returned (Ga (ev1 e))∧((w.alloc (.cells #[Vi Vk e.kind,Vi Vk e.order,Vi Vk e.item,Vi Vk e.qty,Vi Vk e.price] 227)).alloc (.cells #[Vi Vk e.kind,Vi Vk e.order,Vi Vk e.item,Vi Vk e.qty,Vi Vk e.price,Vi Vk 0,Vi Vk 0,.string ⟨#[]⟩,Vi Vk 0,.string ⟨#[]⟩] 38))=w':=by
 unfold v1V;go_enter func222,ntmps222;go_wp2;refine π (v:= .agg #[Vi Vk e.kind,Vi Vk e.order,Vi Vk e.item,Vi Vk e.qty,Vi Vk e.price,Vi Vk 0,Vi Vk 0,.string ⟨#[]⟩,Vi Vk 0,.string ⟨#[]⟩]) (by simp [results,results222,go_sem]) rfl ⟨rfl,rfl⟩
theorem event2_x (e:Ev) (w:World):Calls prog 233 #[v2V e] w fun x w'=>x= .returned (Ga (ev2 e))∧(((((w.alloc (.cells #[Vi Vk e.kind,Vi Vk e.order,Vi Vk e.item,Vi Vk e.qty,Vi Vk e.price,Vi Vk e.cur] 229)).alloc (.cells #[Vi Vk e.kind,Vi Vk e.order,Vi Vk e.item,Vi Vk e.qty,Vi Vk e.price,Vi Vk e.cur,Vi Vk 0,.string ⟨#[]⟩,Vi Vk 0,.string ⟨#[]⟩] 38)).alloc (.cells #[Vi Vk e.kind,Vi Vk e.order,Vi Vk e.item,Vi Vk e.qty,Vi Vk e.price] 227)).alloc (.cells #[Vi Vk e.kind,Vi Vk e.order,Vi Vk e.item,Vi Vk e.qty,Vi Vk e.price,Vi Vk 0,Vi Vk 0,.string ⟨#[]⟩,Vi Vk 0,.string ⟨#[]⟩] 38)).alloc (.cells #[Vi Vk e.kind,Vi Vk e.order,Vi Vk e.item,Vi Vk e.qty,Vi Vk e.price,Vi Vk e.cur,Vi Vk 0,.string ⟨#[]⟩,Vi Vk 0,.string ⟨#[]⟩] 38))=w':=by
 unfold v2V;go_enter func233,ntmps233;go_wp2_with (go_at_call 222;(with_reducible refine(event1_x e _).mono ?_);rintro x w' ⟨rfl,rfl⟩);refine π (v:= .agg #[Vi Vk e.kind,Vi Vk e.order,Vi Vk e.item,Vi Vk e.qty,Vi Vk e.price,Vi Vk e.cur,Vi Vk 0,.string ⟨#[]⟩,Vi Vk 0,.string ⟨#[]⟩]) (by simp [results,results233,go_sem,ev1]) rfl ⟨rfl,rfl⟩
theorem event3_x (e:Ev) (w:World):Calls prog 236 #[v3V e] w fun x w'=>x= .returned (Ga (ev3 e))∧((((((((w.alloc (.cells #[Vi Vk e.kind,Vi Vk e.order,Vi Vk e.item,Vi Vk e.qty,Vi Vk e.price,Vi Vk e.cur,Vi Vk e.tax] 231)).alloc (.cells #[Vi Vk e.kind,Vi Vk e.order,Vi Vk e.item,Vi Vk e.qty,Vi Vk e.price,Vi Vk e.cur,Vi Vk e.tax,.string ⟨#[]⟩,Vi Vk 0,.string ⟨#[]⟩] 38)).alloc (.cells #[Vi Vk e.kind,Vi Vk e.order,Vi Vk e.item,Vi Vk e.qty,Vi Vk e.price,Vi Vk e.cur] 229)).alloc (.cells #[Vi Vk e.kind,Vi Vk e.order,Vi Vk e.item,Vi Vk e.qty,Vi Vk e.price,Vi Vk e.cur,Vi Vk 0,.string ⟨#[]⟩,Vi Vk 0,.string ⟨#[]⟩] 38)).alloc (.cells #[Vi Vk e.kind,Vi Vk e.order,Vi Vk e.item,Vi Vk e.qty,Vi Vk e.price] 227)).alloc (.cells #[Vi Vk e.kind,Vi Vk e.order,Vi Vk e.item,Vi Vk e.qty,Vi Vk e.price,Vi Vk 0,Vi Vk 0,.string ⟨#[]⟩,Vi Vk 0,.string ⟨#[]⟩] 38)).alloc (.cells #[Vi Vk e.kind,Vi Vk e.order,Vi Vk e.item,Vi Vk e.qty,Vi Vk e.price,Vi Vk e.cur,Vi Vk 0,.string ⟨#[]⟩,Vi Vk 0,.string ⟨#[]⟩] 38)).alloc (.cells #[Vi Vk e.kind,Vi Vk e.order,Vi Vk e.item,Vi Vk e.qty,Vi Vk e.price,Vi Vk e.cur,Vi Vk e.tax,.string ⟨#[]⟩,Vi Vk 0,.string ⟨#[]⟩] 38))=w':=by
 unfold v3V;go_enter func236,ntmps236;go_wp2_with (go_at_call 233;(with_reducible refine(event2_x e _).mono ?_);rintro x w' ⟨rfl,rfl⟩);refine π (v:= .agg #[Vi Vk e.kind,Vi Vk e.order,Vi Vk e.item,Vi Vk e.qty,Vi Vk e.price,Vi Vk e.cur,Vi Vk e.tax,.string ⟨#[]⟩,Vi Vk 0,.string ⟨#[]⟩]) (by simp [results,results236,go_sem,ev2]) rfl ⟨rfl,rfl⟩
theorem event4_x (e:Ev) (w:World):Calls prog 240 #[v4V e] w fun x w'=>x= .returned (Ga (ev4 e))∧(((((((((((w.alloc (.cells #[Vi Vk e.kind,Vi Vk e.order,Vi Vk e.item,Vi Vk e.qty,Vi Vk e.price,Vi Vk e.cur,Vi Vk e.tax,.string ⟨e.who.toArray⟩] 233)).alloc (.cells #[Vi Vk e.kind,Vi Vk e.order,Vi Vk e.item,Vi Vk e.qty,Vi Vk e.price,Vi Vk e.cur,Vi Vk e.tax,.string ⟨e.who.toArray⟩,Vi Vk 0,.string ⟨#[]⟩] 38)).alloc (.cells #[Vi Vk e.kind,Vi Vk e.order,Vi Vk e.item,Vi Vk e.qty,Vi Vk e.price,Vi Vk e.cur,Vi Vk e.tax] 231)).alloc (.cells #[Vi Vk e.kind,Vi Vk e.order,Vi Vk e.item,Vi Vk e.qty,Vi Vk e.price,Vi Vk e.cur,Vi Vk e.tax,.string ⟨#[]⟩,Vi Vk 0,.string ⟨#[]⟩] 38)).alloc (.cells #[Vi Vk e.kind,Vi Vk e.order,Vi Vk e.item,Vi Vk e.qty,Vi Vk e.price,Vi Vk e.cur] 229)).alloc (.cells #[Vi Vk e.kind,Vi Vk e.order,Vi Vk e.item,Vi Vk e.qty,Vi Vk e.price,Vi Vk e.cur,Vi Vk 0,.string ⟨#[]⟩,Vi Vk 0,.string ⟨#[]⟩] 38)).alloc (.cells #[Vi Vk e.kind,Vi Vk e.order,Vi Vk e.item,Vi Vk e.qty,Vi Vk e.price] 227)).alloc (.cells #[Vi Vk e.kind,Vi Vk e.order,Vi Vk e.item,Vi Vk e.qty,Vi Vk e.price,Vi Vk 0,Vi Vk 0,.string ⟨#[]⟩,Vi Vk 0,.string ⟨#[]⟩] 38)).alloc (.cells #[Vi Vk e.kind,Vi Vk e.order,Vi Vk e.item,Vi Vk e.qty,Vi Vk e.price,Vi Vk e.cur,Vi Vk 0,.string ⟨#[]⟩,Vi Vk 0,.string ⟨#[]⟩] 38)).alloc (.cells #[Vi Vk e.kind,Vi Vk e.order,Vi Vk e.item,Vi Vk e.qty,Vi Vk e.price,Vi Vk e.cur,Vi Vk e.tax,.string ⟨#[]⟩,Vi Vk 0,.string ⟨#[]⟩] 38)).alloc (.cells #[Vi Vk e.kind,Vi Vk e.order,Vi Vk e.item,Vi Vk e.qty,Vi Vk e.price,Vi Vk e.cur,Vi Vk e.tax,.string ⟨e.who.toArray⟩,Vi Vk 0,.string ⟨#[]⟩] 38))=w':=by
 unfold v4V;go_enter func240,ntmps240;go_wp2_with (go_at_call 236;(with_reducible refine(event3_x e _).mono ?_);rintro x w' ⟨rfl,rfl⟩);refine π (v:= .agg #[Vi Vk e.kind,Vi Vk e.order,Vi Vk e.item,Vi Vk e.qty,Vi Vk e.price,Vi Vk e.cur,Vi Vk e.tax,.string ⟨e.who.toArray⟩,Vi Vk 0,.string ⟨#[]⟩]) (by simp [results,results240,go_sem,ev3]) rfl ⟨rfl,rfl⟩
theorem event5_x (e:Ev) (w:World):Calls prog 246 #[v5V e] w fun x w'=>x= .returned (Ga e)∧((((((((((((((w.alloc (.cells #[Vi Vk e.kind,Vi Vk e.order,Vi Vk e.item,Vi Vk e.qty,Vi Vk e.price,Vi Vk e.cur,Vi Vk e.tax,.string ⟨e.who.toArray⟩,Vi Vk e.stamp,.string ⟨e.note.toArray⟩] 235)).alloc (.cells #[Vi Vk e.kind,Vi Vk e.order,Vi Vk e.item,Vi Vk e.qty,Vi Vk e.price,Vi Vk e.cur,Vi Vk e.tax,.string ⟨e.who.toArray⟩,Vi Vk e.stamp,.string ⟨e.note.toArray⟩] 38)).alloc (.cells #[Vi Vk e.kind,Vi Vk e.order,Vi Vk e.item,Vi Vk e.qty,Vi Vk e.price,Vi Vk e.cur,Vi Vk e.tax,.string ⟨e.who.toArray⟩] 233)).alloc (.cells #[Vi Vk e.kind,Vi Vk e.order,Vi Vk e.item,Vi Vk e.qty,Vi Vk e.price,Vi Vk e.cur,Vi Vk e.tax,.string ⟨e.who.toArray⟩,Vi Vk 0,.string ⟨#[]⟩] 38)).alloc (.cells #[Vi Vk e.kind,Vi Vk e.order,Vi Vk e.item,Vi Vk e.qty,Vi Vk e.price,Vi Vk e.cur,Vi Vk e.tax] 231)).alloc (.cells #[Vi Vk e.kind,Vi Vk e.order,Vi Vk e.item,Vi Vk e.qty,Vi Vk e.price,Vi Vk e.cur,Vi Vk e.tax,.string ⟨#[]⟩,Vi Vk 0,.string ⟨#[]⟩] 38)).alloc (.cells #[Vi Vk e.kind,Vi Vk e.order,Vi Vk e.item,Vi Vk e.qty,Vi Vk e.price,Vi Vk e.cur] 229)).alloc (.cells #[Vi Vk e.kind,Vi Vk e.order,Vi Vk e.item,Vi Vk e.qty,Vi Vk e.price,Vi Vk e.cur,Vi Vk 0,.string ⟨#[]⟩,Vi Vk 0,.string ⟨#[]⟩] 38)).alloc (.cells #[Vi Vk e.kind,Vi Vk e.order,Vi Vk e.item,Vi Vk e.qty,Vi Vk e.price] 227)).alloc (.cells #[Vi Vk e.kind,Vi Vk e.order,Vi Vk e.item,Vi Vk e.qty,Vi Vk e.price,Vi Vk 0,Vi Vk 0,.string ⟨#[]⟩,Vi Vk 0,.string ⟨#[]⟩] 38)).alloc (.cells #[Vi Vk e.kind,Vi Vk e.order,Vi Vk e.item,Vi Vk e.qty,Vi Vk e.price,Vi Vk e.cur,Vi Vk 0,.string ⟨#[]⟩,Vi Vk 0,.string ⟨#[]⟩] 38)).alloc (.cells #[Vi Vk e.kind,Vi Vk e.order,Vi Vk e.item,Vi Vk e.qty,Vi Vk e.price,Vi Vk e.cur,Vi Vk e.tax,.string ⟨#[]⟩,Vi Vk 0,.string ⟨#[]⟩] 38)).alloc (.cells #[Vi Vk e.kind,Vi Vk e.order,Vi Vk e.item,Vi Vk e.qty,Vi Vk e.price,Vi Vk e.cur,Vi Vk e.tax,.string ⟨e.who.toArray⟩,Vi Vk 0,.string ⟨#[]⟩] 38)).alloc (.cells #[Vi Vk e.kind,Vi Vk e.order,Vi Vk e.item,Vi Vk e.qty,Vi Vk e.price,Vi Vk e.cur,Vi Vk e.tax,.string ⟨e.who.toArray⟩,Vi Vk e.stamp,.string ⟨e.note.toArray⟩] 38))=w':=by
 unfold v5V;go_enter func246,ntmps246;go_wp2_with (go_at_call 240;(with_reducible refine(event4_x e _).mono ?_);rintro x w' ⟨rfl,rfl⟩);refine π (v:= .agg #[Vi Vk e.kind,Vi Vk e.order,Vi Vk e.item,Vi Vk e.qty,Vi Vk e.price,Vi Vk e.cur,Vi Vk e.tax,.string ⟨e.who.toArray⟩,Vi Vk e.stamp,.string ⟨e.note.toArray⟩]) (by simp [results,results246,go_sem,ev4]) rfl ⟨rfl,rfl⟩
theorem event1_any (e:Ev) (w:World):Calls prog 222 #[v1V e] w fun x w'=>x= .returned (Ga (ev1 e))∧Below w.heap.size w w':=
 (event1_x e w).mono fun x w' ⟨he,hw⟩=>⟨he,by
  subst hw
  repeat (first|exact χ _ _|refine Below.alloc ?_ (by simp;try omega) _)⟩
theorem event2_any (e:Ev) (w:World):Calls prog 233 #[v2V e] w fun x w'=>x= .returned (Ga (ev2 e))∧Below w.heap.size w w':=
 (event2_x e w).mono fun x w' ⟨he,hw⟩=>⟨he,by
  subst hw
  repeat (first|exact χ _ _|refine Below.alloc ?_ (by simp;try omega) _)⟩
theorem event3_any (e:Ev) (w:World):Calls prog 236 #[v3V e] w fun x w'=>x= .returned (Ga (ev3 e))∧Below w.heap.size w w':=
 (event3_x e w).mono fun x w' ⟨he,hw⟩=>⟨he,by
  subst hw
  repeat (first|exact χ _ _|refine Below.alloc ?_ (by simp;try omega) _)⟩
theorem event4_any (e:Ev) (w:World):Calls prog 240 #[v4V e] w fun x w'=>x= .returned (Ga (ev4 e))∧Below w.heap.size w w':=
 (event4_x e w).mono fun x w' ⟨he,hw⟩=>⟨he,by
  subst hw
  repeat (first|exact χ _ _|refine Below.alloc ?_ (by simp;try omega) _)⟩
theorem event5_any (e:Ev) (w:World):Calls prog 246 #[v5V e] w fun x w'=>x= .returned (Ga e)∧Below w.heap.size w w':=
 (event5_x e w).mono fun x w' ⟨he,hw⟩=>⟨he,by
  subst hw
  repeat (first|exact χ _ _|refine Below.alloc ?_ (by simp;try omega) _)⟩
theorem lift_x (e:Ev) (w:World):Calls prog 137 #[Ga e] w fun x w'=>x= .returned (v5V e)∧Below w.heap.size w w':=by
 unfold Ga;go_enter func137,ntmps137;go_wp2;refine π (v:=v5V e) (by simp [results,results137,go_sem]) rfl ⟨rfl,?_⟩
 repeat (first|exact χ _ _|refine Below.alloc ?_ (by simp;try omega) _)
theorem m1last (k:Nat) (e:Ev) (w:World):(Go.method (k+1) 227 (v1V e) "daybook/schema.last").run prog w= .ok (225,v1V e) w:=by kernel_rfl
theorem m2last (k:Nat) (e:Ev) (w:World):(Go.method (k+1) 229 (v2V e) "daybook/schema.last").run prog w= .ok (225,v1V e) w:=by kernel_rfl
theorem m3last (k:Nat) (e:Ev) (w:World):(Go.method (k+1) 231 (v3V e) "daybook/schema.last").run prog w= .ok (238,v3V e) w:=by kernel_rfl
theorem m4last (k:Nat) (e:Ev) (w:World):(Go.method (k+1) 233 (v4V e) "daybook/schema.last").run prog w= .ok (242,v4V e) w:=by kernel_rfl
theorem m5last (k:Nat) (e:Ev) (w:World):(Go.method (k+1) 235 (v5V e) "daybook/schema.last").run prog w= .ok (248,v5V e) w:=by kernel_rfl
theorem m1fits (k:Nat) (e:Ev) (w:World):(Go.method (k+1) 227 (v1V e) "daybook/schema.fits").run prog w= .ok (224,v1V e) w:=by kernel_rfl
theorem m2fits (k:Nat) (e:Ev) (w:World):(Go.method (k+1) 229 (v2V e) "daybook/schema.fits").run prog w= .ok (234,v2V e) w:=by kernel_rfl
theorem m3fits (k:Nat) (e:Ev) (w:World):(Go.method (k+1) 231 (v3V e) "daybook/schema.fits").run prog w= .ok (237,v3V e) w:=by kernel_rfl
theorem m4fits (k:Nat) (e:Ev) (w:World):(Go.method (k+1) 233 (v4V e) "daybook/schema.fits").run prog w= .ok (241,v4V e) w:=by kernel_rfl
theorem m5fits (k:Nat) (e:Ev) (w:World):(Go.method (k+1) 235 (v5V e) "daybook/schema.fits").run prog w= .ok (247,v5V e) w:=by kernel_rfl
theorem m1event (k:Nat) (e:Ev) (w:World):(Go.method (k+1) 227 (v1V e) "Event").run prog w= .ok (222,v1V e) w:=by kernel_rfl
theorem m2event (k:Nat) (e:Ev) (w:World):(Go.method (k+1) 229 (v2V e) "Event").run prog w= .ok (233,v2V e) w:=by kernel_rfl
theorem m3event (k:Nat) (e:Ev) (w:World):(Go.method (k+1) 231 (v3V e) "Event").run prog w= .ok (236,v3V e) w:=by kernel_rfl
theorem m4event (k:Nat) (e:Ev) (w:World):(Go.method (k+1) 233 (v4V e) "Event").run prog w= .ok (240,v4V e) w:=by kernel_rfl
theorem m5event (k:Nat) (e:Ev) (w:World):(Go.method (k+1) 235 (v5V e) "Event").run prog w= .ok (246,v5V e) w:=by kernel_rfl
def Jj (v:Int) (e:Ev):Value:=
 if v=1 then .iface 227 (v1V e) else if v=2 then .iface 229 (v2V e) else if v=3 then .iface 231 (v3V e) else if v=4 then .iface 233 (v4V e) else if v=5 then .iface 235 (v5V e) else .nilIface
theorem Gp (v:Int) (e:Ev) (w:World):Calls prog 103 #[Vi Vk v,Ga e] w fun x w'=>x= .returned (Jj v e)∧Below w.heap.size w w':=by
 have HL:=Qh (lift_x e);unfold Ga;have hE:=Mx w e 38;have HE:=Qh hE;clear hE;by_cases h:1≤v∧v≤5
 ·rcases (show v=1∨v=2∨v=3∨v=4∨v=5 by omega) with rfl|rfl|rfl|rfl|rfl
  all_goals
   clear h;go_enter func103,ntmps103;go_wp2_with fail;refine(HL.out _).mono ?_;rintro x w2 ⟨rfl,hb⟩;have HB:=Qh (Below.next ((χ _ _).alloc (μ _) _) hb);clear hb;go_wp2;go_ret;exact⟨rfl,Below.next HB.out ((χ _ _).alloc (μ _) _)⟩
 ·have d1:(v==1)=false:=by simp;omega
  have d2:(v==2)=false:=by simp;omega
  have d3:(v==3)=false:=by simp;omega
  have d4:(v==4)=false:=by simp;omega
  have d5:(v==5)=false:=by simp;omega
  have hv:=Qs (Jj v e= .nilIface) (by unfold Jj;rw [γ (by omega),γ (by omega),γ (by omega),γ (by omega),γ (by omega)]);clear h;go_enter func103,ntmps103;go_wp2_with fail;refine(HL.out _).mono ?_;rintro x w2 ⟨rfl,hb⟩;have HB:=Qh (Below.next ((χ _ _).alloc (μ _) _) hb);clear hb;go_wp2;go_ret;exact⟨by rw [hv.out];rfl,Below.next HB.out ((χ _ _).alloc (μ _) _)⟩
theorem schemaCheck_version (v:Int) (e:Ev) (w:World) (h:v<1∨5<v):Calls prog 101 #[Vi Vk v,Ga e] w (Hf (Am v e) w):=by
 have hf:=Qh (chk30 (e:=e) h);have hT:=Qs (Jj v e= .nilIface) (by unfold Jj;rw [γ (by omega),γ (by omega),γ (by omega),γ (by omega),γ (by omega)]);have HT:=Qh (fun W=>hT.out▸Gp v e W);clear h;unfold Ga;go_enter func101,ntmps101;go_wp2_with fail;refine(HT.out _).mono ?_;rintro x w2 ⟨rfl,hb⟩;have HB:=Qh (Below.next ((χ _ _).alloc (μ _) _) hb);clear hb;go_wp2;go_ret;exact⟨by rw [hf.out];rfl,HB.out⟩
theorem evCells {b:Nat}  (h:EvAt w' b e):w'.cell? ⟨b,0,none⟩=some (Vi Vk e.kind)∧w'.cell? ⟨b,1,none⟩=some (Vi Vk e.order)∧w'.cell? ⟨b,2,none⟩=some (Vi Vk e.item)∧w'.cell? ⟨b,3,none⟩=some (Vi Vk e.qty)∧w'.cell? ⟨b,4,none⟩=some (Vi Vk e.price)∧w'.cell? ⟨b,5,none⟩=some (Vi Vk e.cur)∧w'.cell? ⟨b,6,none⟩=some (Vi Vk e.tax)∧w'.cell? ⟨b,7,none⟩=some (.string ⟨e.who.toArray⟩)∧w'.cell? ⟨b,8,none⟩=some (Vi Vk e.stamp)∧w'.cell? ⟨b,9,none⟩=some (.string ⟨e.note.toArray⟩):=
 ⟨h.c0,h.c1,h.c2,h.c3,h.c4,h.c5,h.c6,h.c7,h.c8,h.c9⟩
theorem evFits_1 (e:Ev):Gj 1 e=(fitsV1 e&&G9 (ev1 e) e):=by
 rw [Bool.eq_iff_iff];simp only [Gj,fitsV1,coreB,ev1,G9,Ms,Bool.and_eq_true,decide_eq_true_eq,beq_iff_eq,Bool.or_eq_true,List.isEmpty_iff]
 grind
theorem evFits_2 (e:Ev):Gj 2 e=(fits2 e&&G9 (ev2 e) e):=by
 rw [Bool.eq_iff_iff];simp only [Gj,fits2,coreB,ev2,G9,Ms,Bool.and_eq_true,decide_eq_true_eq,beq_iff_eq,Bool.or_eq_true,List.isEmpty_iff]
 grind
theorem evFits_3 (e:Ev):Gj 3 e=(fits3 e&&G9 (ev3 e) e):=by
 rw [Bool.eq_iff_iff];simp only [Gj,fits3,fits2,coreB,ev3,G9,Ms,Bool.and_eq_true,decide_eq_true_eq,beq_iff_eq,Bool.or_eq_true,List.isEmpty_iff]
 grind
theorem evFits_4 (e:Ev):Gj 4 e=(fits4 e&&G9 (ev4 e) e):=by
 rw [Bool.eq_iff_iff];simp only [Gj,fits4,fits3,fits2,coreB,ev4,G9,Ms,Bool.and_eq_true,decide_eq_true_eq,beq_iff_eq,Bool.or_eq_true,List.isEmpty_iff]
 grind
theorem evFits_5 (e:Ev):Gj 5 e=fits5 e:=by
 rw [Bool.eq_iff_iff];simp only [Gj,fits5,fits4,fits3,fits2,coreB,Ms,Bool.and_eq_true,decide_eq_true_eq,Bool.or_eq_true,List.isEmpty_iff]
 grind
def zigV (n:Int):Nat:=if 0≤n then (2*n).toNat else (-2*n - 1).toNat
def zagV (u:Nat):Int:=if u % 2=0 then ((u / 2:Nat):Int) else -((u / 2:Nat):Int) - 1
theorem zag_zig (n:Int):zagV (zigV n)=n:=by
 unfold zigV zagV;split<;>split<;>omega
def Lo (f:Ce):List UInt8:=if f.text then A7 (f.tag*2+1)++A7 f.data.length++f.data else A7 (f.tag*2)++A7 f.num
def Cq (fs:List Ce):List UInt8:=fs.flatMap Lo
def nz (f:Ce):Bool:=if f.text then !f.data.isEmpty else f.num != 0
def nF (t:Nat) (n:Int):Ce:=⟨t,false,n.toNat,[]⟩
def tF (t:Nat) (l:List UInt8):Ce:=⟨t,true,0,l⟩
def cand (v:Int) (e:Ev):List Ce:=
 [nF 1 e.kind,nF 2 e.order,nF 3 e.item,if v<3 then ⟨4,false,zigV e.qty,[]⟩ else nF 4 e.qty,nF 5 e.price]++(if 2≤v then [nF 6 e.cur] else [])++
  (if 3≤v then [nF 7 e.tax] else [])++(if 4≤v then [tF 8 e.who] else [])++(if 5≤v then [nF 9 e.stamp,tF 10 e.note] else [])
def evFlds (v:Int) (e:Ev):List Ce:=(cand v e).filter nz
def Iy (v:Int) (e:Ev):List UInt8:=A7 v.toNat++Cq (evFlds v e)
def O2 (v:Int) (q:List Ce×Int):Ev×Int:=
 let k:=numQ q 1
 let o:=numQ k.2 2
 let i:=numQ o.2 3
 let c:=if v<3 then (zagV (Dt i.2 4 false).1.num,(Dt i.2 4 false).2) else numQ i.2 4
 let p:=numQ c.2 5
 let n:=if v=5 then ((Dt p.2 10 true).1.data,numQ (Dt p.2 10 true).2 9) else ([],0,p.2)
 let h:=if 4≤v then ((Dt n.2.2 8 true).1.data,(Dt n.2.2 8 true).2) else ([],n.2.2)
 let t:=if 3≤v then numQ h.2 7 else (0,h.2)
 let u:=if 2≤v then numQ t.2 6 else (0,t.2)
 let e:Ev:=⟨k.1,o.1,i.1,c.1,p.1,u.1,t.1,h.1,n.2.1,n.1⟩
 if errQ u.2≠0 then (Ai,errQ u.2) else if Am v e≠0 then (Ai,Am v e) else (e,0)
def Gh (v:Int) (b:List UInt8):Ev×Int:=
 if v<1∨5<v then (Ai,30) else if (tlvDec b).1≠0 then (Ai,(tlvDec b).1) else O2 v ((tlvDec b).2,0)
def Gy (b:List UInt8):Int×Ev×Int:=
 if (A3 b).2.2≠0 then (0,Ai,(A3 b).2.2)
 else if (Gh (E8 (A3 b).1) (b.drop (A3 b).2.1)).2≠0 then (0,Ai,(Gh (E8 (A3 b).1) (b.drop (A3 b).2.1)).2)
 else (E8 (A3 b).1,(Gh (E8 (A3 b).1) (b.drop (A3 b).2.1)).1,0)
def FldOk (f:Ce):Prop:=1≤f.tag∧f.tag≤31∧nz f=true∧f.num<18446744073709551616∧f.data.length≤200∧(f.text=true→f.num=0)∧(f.text=false→f.data=[])
theorem fldV_enc {f:Ce} (h:FldOk f) {r:List UInt8} {last:Nat} (hd:b.drop p=Lo f++r) (hl:last<f.tag):Fm b p last=(0,f,p+(Lo f).length):=by
 obtain⟨t,tx,n,d⟩:=f;obtain⟨h1,h2,h3,h4,h5,h6,h7⟩:=h;simp only at h1 h2 h4 h5 h6 h7 hl;cases tx
 ·have hd0:d=[]:=h7 rfl;subst hd0;have hn:n≠0:=by simpa [nz] using h3
  have e0:Lo ⟨t,false,n,[]⟩=A7 (t*2)++A7 n:=rfl;rw [e0] at hd ⊢;have e1:=G0 (show t*2<18446744073709551616 by omega) (A7 n++r);rw [←List.append_assoc,←hd] at e1;have hd2:b.drop (p+(A7 (t*2)).length)=A7 n++r:=by rw [←List.drop_drop,hd,List.append_assoc,List.drop_left]
  have e2:=G0 h4 r;rw [←hd2] at e2;unfold Fm;simp only [e1,e2];rw [γ (by decide),γ (by omega),γ (by omega),γ (by decide),γ hn,κ (by omega),Nat.mul_div_cancel _ (by decide),ζ,Nat.add_assoc]
 ·have hn0:n=0:=h6 rfl;subst hn0;have hn:d≠ []:=by simpa [nz] using h3
  have hp:=Ψ.2 hn;have e0:Lo ⟨t,true,0,d⟩=A7 (t*2+1)++A7 d.length++d:=rfl;rw [e0] at hd ⊢;have e1:=G0 (show t*2+1<18446744073709551616 by omega) (A7 d.length++(d++r));have hq:b.drop p=A7 (t*2+1)++(A7 d.length++(d++r)):=by rw [hd];simp only [List.append_assoc]
  rw [←hq] at e1;have hd2:b.drop (p+(A7 (t*2+1)).length)=A7 d.length++(d++r):=by rw [←List.drop_drop,hq,List.drop_left]
  have e2:=G0 (show d.length<18446744073709551616 by omega) (d++r);rw [←hd2] at e2;have hd3:b.drop (p+(A7 (t*2+1)).length+(A7 d.length).length)=d++r:=by rw [←List.drop_drop,hd2,List.drop_left]
  have hl3:=congrArg List.length hd3;rw [Λ,ζ] at hl3;unfold Fm;simp only [e1,e2];rw [γ (by decide),γ (by omega),γ (by omega),γ (by decide),γ (by omega),γ (by omega),γ (by omega),γ (by omega),hd3,List.take_left];simp only [Prod.mk.injEq,Ce.mk.injEq,true_and,and_true,ζ];omega
theorem tlvGo_enc: ∀ (fs:List Ce) (n p last:Nat) (acc:List Ce) (b:List UInt8),(∀ f∈fs,FldOk f)→fs.Pairwise (fun a b=>a.tag<b.tag)→(∀ f∈fs,last<f.tag)→b.drop p=Cq fs→b.length<p+n→tlvGo b n p last acc=(0,acc++fs)
 | [],n,p,last,acc,b,_,_,_,hd,hn=>by
  have:=congrArg List.length hd
  rw [Λ,show Cq []=[] from rfl,Φ] at this
  rw [tlvGo_end (by omega),List.append_nil]
 |f::fs,n,p,last,acc,b,ho,hp,hl,hd,hn=>by
  obtain⟨hp1,hp2⟩:=List.pairwise_cons.1 hp
  have hd':b.drop p=Lo f++Cq fs:=by rw [hd];rfl
  have hv:=fldV_enc (ho f (by simp)) hd' (hl f (by simp))
  have hpos:0<(Lo f).length:=by
   unfold Lo;split
   ·have:=encV_pos (f.tag*2+1);simp only [ζ];omega
   ·have:=encV_pos (f.tag*2);simp only [ζ];omega
  have hlen:=congrArg List.length hd';rw [Λ,ζ] at hlen;obtain⟨n',rfl⟩: ∃ n',n=n'+1:=⟨n - 1,by omega⟩;rw [tlvGo_ok (by omega) (by rw [hv]),hv];simp only;rw [tlvGo_enc fs n' _ f.tag _ b (fun x hx=>ho x (by simp [hx])) hp2 hp1 (by rw [←List.drop_drop,hd',List.drop_left]) (by omega)];simp
theorem tlvDec_enc {fs:List Ce} (ho: ∀ f∈fs,FldOk f) (hp:fs.Pairwise fun a b=>a.tag<b.tag) (hl:(Cq fs).length≤1024):tlvDec (Cq fs)=(0,fs):=by
 unfold tlvDec;rw [γ (by omega),tlvGo_enc fs _ 0 0 [] _ ho hp (fun f hf=>(ho f hf).1) (by rw [List.drop_zero]) (by omega)];rfl
theorem tag_inj {C:List Ce} (hC:C.Pairwise fun a b=>a.tag<b.tag) {x y:Ce} (hx:x∈C) (hy:y∈C) (h:x.tag=y.tag):x=y:=by
 induction C with
 |nil=>cases hx
 |cons z r ih=>
  obtain⟨h1,h2⟩:=List.pairwise_cons.1 hC;rcases Δ.1 hx with hx2|hx2<;>rcases Δ.1 hy with hy2|hy2
  ·rw [hx2,hy2]
  ·have:=h1 y hy2;rw [←hx2] at this;omega
  ·have:=h1 x hx2;rw [←hy2] at this;omega
  ·exact ih h2 hx2 hy2
def lf (C:List Ce) (S:Nat→Bool):List Ce:=C.filter fun x=>nz x&&S x.tag
theorem takeQ_mem {C:List Ce} (hC:C.Pairwise fun a b=>a.tag<b.tag) {S:Nat→Bool} {f:Ce}  (hf:f∈C) (hS:S f.tag=true) (h0:f.text=true→f.num=0) (h1:f.text=false→f.data=[]):
  (Dt (C.filter (fun x=>nz x&&S x.tag),bad) f.tag f.text).1.num=f.num∧(Dt (C.filter (fun x=>nz x&&S x.tag),bad) f.tag f.text).1.data=f.data∧
   (Dt (C.filter (fun x=>nz x&&S x.tag),bad) f.tag f.text).2=(C.filter (fun x=>nz x&&(S x.tag&&x.tag != f.tag)),bad):=by
 unfold Dt;simp only;rcases hz:nz f with _|_
 ·have hn:(C.filter fun x=>nz x&&S x.tag).find? (tagQ f.tag)=none:=List.find?_eq_none.2 fun x hx hk=>by
   obtain⟨hx1,hx2⟩:=List.mem_filter.1 hx;have e:x.tag=f.tag:=by simp only [tagQ,beq_iff_eq] at hk;omega
   rw [tag_inj hC hx1 hf e,hz] at hx2;cases hx2
  rw [hn];simp only;refine⟨?_,?_,?_⟩
  ·rcases ht:f.text with _|_
   ·unfold nz at hz;rw [ht] at hz;simp at hz;rw [hz];rfl
   ·rw [h0 ht];rfl
  ·rcases ht:f.text with _|_
   ·rw [h1 ht];rfl
   ·unfold nz at hz;rw [ht] at hz;simp at hz;rw [hz];rfl
  ·congr 1;refine List.filter_congr fun x hx=> ?_;by_cases e:x.tag=f.tag
   ·rw [tag_inj hC hx hf e,hz];rfl
   ·have:(x.tag != f.tag)=true:=by simpa using e
    rw [this,Bool.and_true]
 ·have hn:(C.filter fun x=>nz x&&S x.tag).find? (tagQ f.tag)=some f:=by
   rcases h:(C.filter fun x=>nz x&&S x.tag).find? (tagQ f.tag) with _|x
   ·have:=List.find?_eq_none.1 h f (List.mem_filter.2 ⟨hf,by rw [hz,hS];rfl⟩);simp [tagQ] at this
   ·have h2:=List.find?_some h;have hx1:=(List.mem_filter.1 (List.mem_of_find?_eq_some h)).1;rw [tag_inj hC hx1 hf (by simp only [tagQ,beq_iff_eq] at h2;omega)]
  rw [hn];simp only [if_true];refine⟨trivial,trivial,?_⟩;unfold restQ;rw [List.filter_filter];congr 1;refine List.filter_congr fun x _=> ?_;have:(!tagQ (f.tag:Int) x)=(x.tag != f.tag):=by
   unfold tagQ;rw [Bool.eq_iff_iff];simp;omega
  rw [this];cases nz x<;>cases S x.tag<;>cases (x.tag != f.tag)<;>rfl
theorem Gm {C:List Ce} (hC:C.Pairwise fun a b=>a.tag<b.tag) {S:Nat→Bool} {t:Nat} {n k:Int}  (hk:k=(t:Int)) (hf:nF t n∈C) (hS:S t=true) (hn:0≤n∧n≤4611686018427387904):
  numQ (lf C S,bad) k=(n,lf C (fun y=>S y&&y != t),bad):=by
 subst hk;obtain⟨e1,_,e3⟩:=takeQ_mem (bad:=bad) hC hf hS (fun h=>by cases h) (fun _=>rfl);unfold numQ lf;show (E8 (Dt _ ((nF t n).tag:Int) (nF t n).text).1.num,(Dt _ ((nF t n).tag:Int) (nF t n).text).2)=_;rw [e1,e3];congr 1;unfold E8 nF;simp only;omega
theorem textQ_mem {C:List Ce} (hC:C.Pairwise fun a b=>a.tag<b.tag) {S:Nat→Bool} {t:Nat}  {k:Int} (hk:k=(t:Int)) (hf:tF t l∈C) (hS:S t=true):
  (Dt (lf C S,bad) k true).1.data=l∧(Dt (lf C S,bad) k true).2=(lf C (fun y=>S y&&y != t),bad):=by
 subst hk;obtain⟨_,e2,e3⟩:=takeQ_mem (bad:=bad) hC hf hS (fun _=>rfl) (fun h=>by cases h);exact⟨e2,e3⟩
structure EvFit (v:Int) (e:Ev):Prop where
 ver:1≤v∧v≤5
 kind:1≤e.kind∧e.kind≤10
 order:1≤e.order∧e.order≤1099511627776
 item:0≤e.item∧e.item≤65535
 qty:(if v<3 then -10000 else 0)≤e.qty∧e.qty≤10000
 price:0≤e.price∧e.price≤100000000
 cur:0≤e.cur∧e.cur≤(if v<2 then 0 else 3)
 tax:0≤e.tax∧e.tax≤(if v<3 then 0 else 5000)
 who:e.who.length≤16∧(v<4→e.who=[])
 stamp:0≤e.stamp∧e.stamp≤(if v<5 then 0 else 1099511627776)
 note:e.note.length≤120∧(v<5→e.note=[])
theorem evFit {v:Int}  (h:Am v e=0):EvFit v e:=by
 unfold Am at h;split at h
 ·cases h
 ·rename_i h1;split at h
  ·cases h
  ·rename_i h2;split at h
   ·cases h
   ·rename_i h3;split at h
    ·rename_i h4;unfold Gj Ms at h4;simp only [Bool.and_eq_true,decide_eq_true_eq,Bool.or_eq_true,List.isEmpty_iff] at h4;obtain⟨⟨⟨⟨⟨⟨⟨⟨a1,a2⟩,a3⟩,a4⟩,a5⟩,a6⟩,a7⟩,a8⟩,a9⟩:=h4;have hk:Dw v≤10:=by unfold Dw;repeat' split<;>omega
     refine⟨by omega,by omega,a1,a2,a3,⟨a4.1,?_⟩,a5,a6,⟨by omega,fun hv=> ?_⟩,a8,⟨by omega,fun hv=> ?_⟩⟩
     ·have:=a4.2;split at this<;>omega
     ·rw [κ hv] at a7;simpa using a7
     ·rcases a9 with h|h
      ·omega
      ·exact h
    ·cases h
theorem Kh {v:Int} (e:Ev) (hv:1≤v∧v≤5):(cand v e).Pairwise fun a b=>a.tag<b.tag:=by
 have:v=1∨v=2∨v=3∨v=4∨v=5:=by omega
 rcases this with rfl|rfl|rfl|rfl|rfl<;>simp [cand,nF,tF]
theorem cand_ok {v:Int}  (h:EvFit v e): ∀ f∈cand v e,nz f=true→FldOk f:=by
 have h1:=h.kind;have h2:=h.order;have h3:=h.item;have h4:=h.qty;have h5:=h.price;have h6:=h.cur;have h7:=h.tax;have h8:=h.who.1;have h9:=h.stamp;have h10:=h.note.1;have hq:zigV e.qty<18446744073709551616:=by unfold zigV;split<;>split at h4<;>omega
 have hn: ∀ (t:Nat) (n:Int),1≤t→t≤10→0≤n→n<18446744073709551616→nz (nF t n)=true→FldOk (nF t n):=fun t n a b c d hz=>
  ⟨a,by show t≤31;omega,hz,by show n.toNat<_;omega,by show 0≤200;omega,(fun h=>by cases h),fun _=>rfl⟩
 have ht: ∀ (t:Nat) (l:List UInt8),1≤t→t≤10→l.length≤200→nz (tF t l)=true→FldOk (tF t l):=fun t l a b c hz=>
  ⟨a,by show t≤31;omega,hz,by show 0<_;omega,c,(fun _=>rfl),fun h=>by cases h⟩
 intro f hf hz;unfold cand at hf;simp only [List.mem_append,Δ,Ω,or_false,List.mem_ite_nil_right] at hf;rcases hf with((((hf|hf|hf|hf|hf)|⟨_,hf⟩)|⟨_,hf⟩)|⟨_,hf⟩)|⟨_,hf|hf⟩<;>subst hf
 ·exact hn _ _ (by omega) (by omega) (by omega) (by omega) hz
 ·exact hn _ _ (by omega) (by omega) (by omega) (by omega) hz
 ·exact hn _ _ (by omega) (by omega) (by omega) (by omega) hz
 ·split at hz
  ·rename_i hv;rw [κ hv];exact⟨by show 1≤4;omega,by show 4≤31;omega,hz,hq,by show 0≤200;omega,(fun h=>by cases h),fun _=>rfl⟩
  ·rename_i hv;rw [γ hv] at h4 ⊢;exact hn _ _ (by omega) (by omega) (by omega) (by omega) hz
 ·exact hn _ _ (by omega) (by omega) (by omega) (by omega) hz
 ·exact hn _ _ (by omega) (by omega) (by omega) (by split at h6<;>omega) hz
 ·exact hn _ _ (by omega) (by omega) (by omega) (by split at h7<;>omega) hz
 ·exact ht _ _ (by omega) (by omega) (by omega) hz
 ·exact hn _ _ (by omega) (by omega) (by omega) (by split at h9<;>omega) hz
 ·exact ht _ _ (by omega) (by omega) (by omega) hz
theorem O5 {v:Int}  (h:EvFit v e):(∀ f∈evFlds v e,FldOk f)∧(evFlds v e).Pairwise fun a b=>a.tag<b.tag:=
 ⟨fun f hf=>by obtain⟨h1,h2⟩:=List.mem_filter.1 hf;exact cand_ok h f h1 h2,(Kh e h.ver).sublist List.filter_sublist⟩
theorem fldEnc_len {f:Ce} (h:FldOk f):(Lo f).length≤20+f.data.length:=by
 obtain⟨h1,h2,_,h4,h5,_⟩:=h;unfold Lo;split
 ·have a:=De (show f.tag*2+1<18446744073709551616 by omega);have b:=De (show f.data.length<18446744073709551616 by omega);simp only [ζ];omega
 ·have a:=De (show f.tag*2<18446744073709551616 by omega);have b:=De h4;simp only [ζ];omega
theorem recEnc_len: ∀ {fs:List Ce},(∀ f∈fs,FldOk f)→(Cq fs).length≤20*fs.length+(fs.map fun f=>f.data.length).sum
 | [],_=>by simp [Cq]
 |f::fs,h=>by
  have h1:=fldEnc_len (h f (by simp))
  have h2:=recEnc_len (fs:=fs) fun x hx=>h x (by simp [hx])
  simp only [Cq,List.flatMap_cons,ζ,τ,List.map_cons,List.sum_cons] at h2 ⊢
  omega
theorem filt_sum (p:Ce→Bool): ∀ C:List Ce,((C.filter p).map fun f=>f.data.length).sum≤(C.map fun f=>f.data.length).sum
 | []=>by simp
 |f::C=>by
  have:=filt_sum p C
  rw [List.filter_cons]
  split<;>simp only [List.map_cons,List.sum_cons]<;>omega
theorem My {v:Int}  (h:EvFit v e):(Cq (evFlds v e)).length≤336:=by
 have h1:=recEnc_len (O5 h).1;have h2:(evFlds v e).length≤(cand v e).length:=List.length_filter_le _ _;have h3:=filt_sum nz (cand v e);have h4:(cand v e).length≤10∧((cand v e).map fun f=>f.data.length).sum≤136:=by
  have hv:=h.ver;have a:=h.who.1;have b:=h.note.1;have:v=1∨v=2∨v=3∨v=4∨v=5:=by omega
  rcases this with rfl|rfl|rfl|rfl|rfl<;>simp [cand,nF,tF]<;>omega
 unfold evFlds at*;omega
theorem smallV_id {n:Nat} (h:n≤5):E8 n=(n:Int):=by unfold E8;omega
theorem decEv_enc {v:Int}  (hc:Am v e=0):Gh v (Cq (evFlds v e))=(e,0):=by
 have h:=evFit hc;have hr:=Kh e h.ver;obtain⟨ho,hp⟩:=O5 h;have hl:=My h;have hv:=h.ver;unfold Gh;rw [γ (by omega),tlvDec_enc ho hp (by omega),γ (fun h=>h rfl)];have h1:=h.kind;have h2:=h.order;have h3:=h.item;have h4:=h.qty;have h5:=h.price;have h6:=h.cur;have h7:=h.tax;have h9:=h.stamp;have q0:evFlds v e=lf (cand v e) (fun _=>true):=List.filter_congr fun x _=>by simp
 unfold O2;simp only;rw [q0];have c1:nF 1 e.kind∈cand v e:=by unfold cand;simp
 have c2:nF 2 e.order∈cand v e:=by unfold cand;simp
 have c3:nF 3 e.item∈cand v e:=by unfold cand;simp
 have c5:nF 5 e.price∈cand v e:=by unfold cand;simp
 rw [Gm (t:=1) (k:=1) hr rfl c1 rfl (by omega)];simp only;rw [Gm (t:=2) (k:=2) hr rfl c2 rfl (by omega)];simp only;rw [Gm (t:=3) (k:=3) hr rfl c3 rfl (by omega)];simp only;have hcu:(2≤v→nF 6 e.cur∈cand v e)∧(3≤v→nF 7 e.tax∈cand v e)∧(4≤v→tF 8 e.who∈cand v e)∧(5≤v→nF 9 e.stamp∈cand v e∧tF 10 e.note∈cand v e):=by
  unfold cand;refine⟨fun h=> ?_,fun h=> ?_,fun h=> ?_,fun h=> ?_⟩<;>simp [h]
 have hq: ∀ S:Nat→Bool,S 4=true→(if v<3 then (zagV (Dt (lf (cand v e) S,0) 4 false).1.num,(Dt (lf (cand v e) S,0) 4 false).2) else numQ (lf (cand v e) S,0) 4)=
   (e.qty,lf (cand v e) (fun y=>S y&&y != 4),0):=fun S hS=>by
  split
  ·rename_i hlt;have c4:(⟨4,false,zigV e.qty,[]⟩:Ce)∈cand v e:=by unfold cand;simp [hlt]
   obtain⟨e1,_,e3⟩:=takeQ_mem (bad:=0) hr c4 hS (fun h=>by cases h) (fun _=>rfl);have e1':(Dt (lf (cand v e) S,0) 4 false).1.num=zigV e.qty:=e1;rw [e1',zag_zig];exact congrArg (Prod.mk e.qty) e3
  ·rename_i hlt;have c4:nF 4 e.qty∈cand v e:=by unfold cand;simp [hlt]
   rw [γ hlt] at h4;exact Gm (t:=4) (k:=4) hr rfl c4 hS (by omega)
 rw [hq _ rfl];simp only;rw [Gm (t:=5) (k:=5) hr rfl c5 rfl (by omega)];simp only;have hfin: ∀ S:Nat→Bool,(∀ x∈cand v e,S x.tag=false)→errQ (lf (cand v e) S,0)=0:=fun S hS=>by
  unfold errQ;rw [γ (fun h=>h rfl),κ];exact List.filter_eq_nil_iff.2 fun x hx=>by rw [hS x hx];simp
 have:v=1∨v=2∨v=3∨v=4∨v=5:=by omega
 rcases this with rfl|rfl|rfl|rfl|rfl
 ·simp only [show ¬ (1:Int)=5 by decide,show ¬ (4:Int)≤1 by decide,show ¬ (3:Int)≤1 by decide,show ¬ (2:Int)≤1 by decide,if_false];rw [hfin _ (by simp [cand,nF])];have ee:(⟨e.kind,e.order,e.item,e.qty,e.price,0,0,[],0,[]⟩:Ev)=e:=Ev.ext' rfl rfl rfl rfl rfl (by simp at h6;simp;omega) (by simp at h7;simp;omega) (h.who.2 (by omega)).symm (by simp at h9;simp;omega) (h.note.2 (by omega)).symm;rw [ee,hc];rfl
 ·simp only [show ¬ (2:Int)=5 by decide,show ¬ (4:Int)≤2 by decide,show ¬ (3:Int)≤2 by decide,show (2:Int)≤2 by decide,if_false,if_true];rw [Gm (t:=6) (k:=6) hr rfl (hcu.1 (by omega)) rfl (by simp at h6;omega)];simp only;rw [hfin _ (by simp [cand,nF])];have ee:(⟨e.kind,e.order,e.item,e.qty,e.price,e.cur,0,[],0,[]⟩:Ev)=e:=Ev.ext' rfl rfl rfl rfl rfl rfl (by simp at h7;simp;omega) (h.who.2 (by omega)).symm (by simp at h9;simp;omega) (h.note.2 (by omega)).symm;rw [ee,hc];rfl
 ·simp only [show ¬ (3:Int)=5 by decide,show ¬ (4:Int)≤3 by decide,show (3:Int)≤3 by decide,show (2:Int)≤3 by decide,if_false,if_true];rw [Gm (t:=7) (k:=7) hr rfl (hcu.2.1 (by omega)) rfl (by simp at h7;omega)];simp only;rw [Gm (t:=6) (k:=6) hr rfl (hcu.1 (by omega)) rfl (by simp at h6;omega)];simp only;rw [hfin _ (by simp [cand,nF])];have ee:(⟨e.kind,e.order,e.item,e.qty,e.price,e.cur,e.tax,[],0,[]⟩:Ev)=e:=Ev.ext' rfl rfl rfl rfl rfl rfl rfl (h.who.2 (by omega)).symm (by simp at h9;simp;omega) (h.note.2 (by omega)).symm;rw [ee,hc];rfl
 ·simp only [show ¬ (4:Int)=5 by decide,show (4:Int)≤4 by decide,show (3:Int)≤4 by decide,show (2:Int)≤4 by decide,if_false,if_true];have w8:=fun(S:Nat→Bool) (hS:S 8=true)=>textQ_mem (S:=S) (t:=8) (k:=8) (bad:=0) hr rfl (hcu.2.2.1 (by omega)) hS;rw [(w8 _ rfl).1,(w8 _ rfl).2,Gm (t:=7) (k:=7) hr rfl (hcu.2.1 (by omega)) rfl (by simp at h7;omega)];simp only;rw [Gm (t:=6) (k:=6) hr rfl (hcu.1 (by omega)) rfl (by simp at h6;omega)];simp only;rw [hfin _ (by simp [cand,nF,tF])];have ee:(⟨e.kind,e.order,e.item,e.qty,e.price,e.cur,e.tax,e.who,0,[]⟩:Ev)=e:=Ev.ext' rfl rfl rfl rfl rfl rfl rfl rfl (by simp at h9;simp;omega) (h.note.2 (by omega)).symm;rw [ee,hc];rfl
 ·simp only [show (4:Int)≤5 by decide,show (3:Int)≤5 by decide,show (2:Int)≤5 by decide,if_true];have w10:=fun(S:Nat→Bool) (hS:S 10=true)=>textQ_mem (S:=S) (t:=10) (k:=10) (bad:=0) hr rfl (hcu.2.2.2 (by omega)).2 hS;have w8:=fun(S:Nat→Bool) (hS:S 8=true)=>textQ_mem (S:=S) (t:=8) (k:=8) (bad:=0) hr rfl (hcu.2.2.1 (by omega)) hS;rw [(w10 _ rfl).1,(w10 _ rfl).2,Gm (t:=9) (k:=9) hr rfl (hcu.2.2.2 (by omega)).1 rfl (by simp at h9;omega)];simp only;rw [(w8 _ rfl).1,(w8 _ rfl).2,Gm (t:=7) (k:=7) hr rfl (hcu.2.1 (by omega)) rfl (by simp at h7;omega)];simp only;rw [Gm (t:=6) (k:=6) hr rfl (hcu.1 (by omega)) rfl (by simp at h6;omega)];simp only;rw [hfin _ (by simp [cand,nF,tF]),hc];rfl
theorem Mf {v:Int}  (hc:Am v e=0):Gy (Iy v e)=(v,e,0):=by
 have hv:=(evFit hc).ver;have h1:=G0 (show v.toNat<18446744073709551616 by omega) (Cq (evFlds v e));have hs:E8 v.toNat=v:=by rw [smallV_id (by omega)];omega
 unfold Gy Iy;rw [h1];simp only [ne_eq,not_true_eq_false,if_false,List.drop_left,hs,decEv_enc hc]
def numF (f:J6):Nat×Bool:=((A3 f.body).1,decide ((A3 f.body).2.2=0)&&decide ((A3 f.body).2.1=f.body.length))
def stsP:List I3→List St→Option (List St)
 | [],ss=>some ss
 |p::r,ss=>if (decSt p.f.body).2≠0∨p.f.k≠5∨(p.f.s:Int)≠(decSt p.f.body).1.order then none else stsP r (ss++[(decSt p.f.body).1])
def bookOk:Int→List St→Bool
 |_,[]=>true
 |last,s::r=>decide (last<s.order)&&decide (1≤s.events)&&validB s&&bookOk s.order r
def zPlc:I3:=⟨0,0,N7⟩
def bookBad (p q:J6) (n:Nat):Prop:=(numF p).2=false∨(numF q).2=false∨p.k≠6∨q.k≠7∨q.s≠p.s∨p.s<1∨999999<p.s∨(numF p).1<1∨1099511627776<(numF p).1∨(numF q).1≠n
instance (p q:J6) (n:Nat):Decidable (bookBad p q n):=by unfold bookBad;infer_instance
def decBook (b:List UInt8):Option (Nat×Nat×List St):=
 let ps:=(scanAll b).1
 if (scanAll b).2.2≠0∨ps.length<2 then none
 else if bookBad (ps.getD 0 zPlc).f (ps.getD (ps.length - 1) zPlc).f (ps.length - 2) then none
 else match stsP ((ps.take (ps.length - 1)).drop 1) [] with
  |none=>none
  |some ss=>if bookOk 0 ss then some ((ps.getD 0 zPlc).f.s,(numF (ps.getD 0 zPlc).f).1,ss) else none
def J9 (d:Af) (num:Int):(Int×Nat×List St)×Nat:=
 match Kk d (Cs num) with
 |none=>((Av d (Cs num),0,[]),0)
 |some x=>match decBook x.data with
  |none=>((81,0,[]),x.data.length)
  |some r=>if (r.1:Int)≠num then ((81,0,[]),x.data.length) else ((0,r.2.1,r.2.2),x.data.length)
def He (d:Af):List Sg→Bool×Nat
 | []=>(true,0)
 |g::r=>if (Ep d g).1 then ((He d r).1,(Ep d g).2+(He d r).2) else (false,(Ep d g).2)
def sizeN (d:Af) (n:List UInt8):Nat:=match Bf d.files n with | none=>0 | some f=>f.data.length
def sizesN (d:Af) (ns:List (List UInt8)):Nat:=(ns.map (sizeN d)).sum
def Il (d:Af):Pl×Int:=
 if d.room - (usedF d.files:Int)+(sizesN d (straysD d false Ap):Int)<51∨700<(d.files.length:Int) - ((straysD d false Ap).length:Int)+2 then (Ay,54)
 else (⟨true,Ap,straysD d false Ap,22,0⟩,0)
def I0 (d:Af) (m:Da):Bool×Nat:=if 0<m.snap then (decide ((J9 d m.snap).1.1=0)&&decide (((J9 d m.snap).1.2.1:Int)=m.snapSeq),(J9 d m.snap).2) else (true,0)
def Lv (d:Af) (m:Da):(Pl×Int)×Nat:=
 if (I0 d m).1=false then ((Ay,4),(I0 d m).2)
 else if (He d m.segs.dropLast).1=false then ((Ay,4),(I0 d m).2+(He d m.segs.dropLast).2)
 else if (Bn d (Ah m)).1.2.2=false∨(Ah m).first - 1+((Bn d (Ah m)).1.2.1:Int)<m.snapSeq then ((Ay,4),(I0 d m).2+(He d m.segs.dropLast).2+(Bn d (Ah m)).2)
 else ((⟨false,m,straysD d true m,((Bn d (Ah m)).1.1:Int),(Ah m).first - 1+((Bn d (Ah m)).1.2.1:Int)⟩,0),(I0 d m).2+(He d m.segs.dropLast).2+(Bn d (Ah m)).2)
def Bq (d:Af):(Pl×Int)×Nat:=
 if (B6 d).1.2.2≠0 then ((Ay,if (B6 d).1.2.2=80 then 4 else (B6 d).1.2.2),(B6 d).2)
 else if (B6 d).1.2.1=false then (Il d,(B6 d).2)
 else ((Lv d (B6 d).1.1).1,(B6 d).2+(Lv d (B6 d).1.1).2)
theorem Pr (h:Bf d.files n=some x):sizeN d n=x.data.length:=by unfold sizeN;rw [h]
theorem filD_at (h:Kk d n=some x):Bf d.files n=some x:=by
 unfold Kk at h;split at h
 ·exact h
 ·cases h
theorem atF_take {k:List UInt8} (fs:List Bl) (h:k≠n):Bf (takeF n fs) k=Bf fs k:=by
 unfold Bf takeF;rw [List.find?_filter];congr 1;funext f;by_cases hf:f.name=k
 ·simp [hf,h]
 ·simp [hf]
theorem sizes_le: ∀ (ns:List (List UInt8)) (fs:List Bl),Fs fs→ns.Nodup→(ns.map fun n=>match Bf fs n with|none=>0|some f=>f.data.length).sum≤usedF fs
 | [],fs,_,_=>by simp
 |n::ns,fs,hr,hn=>by
  obtain⟨h1,h2⟩:=List.nodup_cons.1 hn
  have ih:=sizes_le ns (takeF n fs) (Kt hr) h2
  have e:(ns.map fun k=>match Bf (takeF n fs) k with|none=>0|some f=>f.data.length)=ns.map fun k=>match Bf fs k with|none=>0|some f=>f.data.length:=
   List.map_congr_left fun k hk=>by rw [atF_take fs (by rintro rfl;exact h1 hk)]
  rw [e] at ih
  rw [List.map_cons,List.sum_cons]
  rcases ha:Bf fs n with _|f
  ·rw [Lq ha] at ih
   simpa using ih
  ·have:=Ea hr ha
   simp only
   omega
theorem sizesN_le {ns:List (List UInt8)} (h:Fs d.files) (hn:ns.Nodup):sizesN d ns≤usedF d.files:=by
 have:=sizes_le ns d.files h hn;exact this
theorem load_read (d:Af):(B6 d).2≤sizeN d Aw:=by
 unfold B6;rcases h:Kk d Aw with _|x
 ·dsimp only;split<;>exact θ _
 ·dsimp only;rw [Pr (filD_at h)];split<;>exact μ _
theorem book_read (d:Af) (n:Int):(J9 d n).2≤sizeN d (Cs n):=by
 unfold J9;rcases h:Kk d (Cs n) with _|x
 ·exact θ _
 ·dsimp only;rw [Pr (filD_at h)]
  repeat' split
  all_goals exact μ _
theorem sealed_read (d:Af) (g:Sg):(Ep d g).2≤2*sizeN d (Ad g.num):=by
 unfold Ep;rcases h:Kk d (Ad g.num) with _|x
 ·exact θ _
 ·dsimp only;rw [Pr (filD_at h)]
  repeat' split
  all_goals simp only
  all_goals omega
theorem Oy (nx:Int): ∀ (l:List Sg) (first num:Int),A4 nx first num l=true→l.Pairwise (fun a b=>a.num<b.num)∧ ∀ g∈l,num<g.num∧g.num<nx
 | [],_,_,h=>by simp [A4] at h
 |g::r,first,num,h=>by
  simp only [A4,Bool.and_eq_true,decide_eq_true_eq] at h
  obtain⟨⟨⟨a1,a2⟩,a3⟩,a4⟩:=h
  by_cases hr:r=[]
  ·subst hr
   exact⟨List.pairwise_singleton _ _,fun x hx=>by simp at hx;subst hx;exact⟨a2,a3⟩⟩
  ·rw [γ (by cases r<;>simp_all)] at a4
   simp only [Bool.and_eq_true,decide_eq_true_eq] at a4
   obtain⟨h1,h2⟩:=Oy nx r (first+g.count) g.num a4.2
   refine⟨List.pairwise_cons.2 ⟨fun x hx=>(h2 x hx).1,h1⟩,fun x hx=> ?_⟩
   rcases Δ.1 hx with rfl|hx
   ·exact⟨a2,a3⟩
   ·have:=h2 x hx;omega
theorem last_segs {m:Da} (h:I2 m):m.segs=m.segs.dropLast++[Ah m]∧Ah m∈m.segs:=by
 obtain⟨g,h1,_,_,_,h2⟩:=Mt _ _ _ _ h.chain;have e:Ah m=g:=by unfold Ah;rw [h1];rfl
 rw [e];have hne:m.segs≠ []:=by rintro h;rw [h] at h1;cases h1
 refine⟨?_,h2⟩;have h3:m.segs.getLast hne=g:=by rw [List.getLast?_eq_some_getLast hne] at h1;exact φ h1
 rw [←h3];exact(List.dropLast_concat_getLast hne).symm
theorem load_ok {d:Af} (h:(B6 d).1.2.1=true):Cy (B6 d).1.1=true∧(B6 d).1.2.2=0∧ ∃ x,Kk d Aw=some x∧B2 x.data=((B6 d).1.1,0):=by
 unfold B6 at h ⊢;rcases hf:Kk d Aw with _|x
 ·rw [hf] at h;dsimp only at h;split at h<;>cases h
 ·rw [hf] at h;dsimp only at h ⊢;split at h
  ·cases h
  ·rename_i hc;rw [γ hc];have h0:(B2 x.data).2=0:=by simpa using hc
   refine⟨?_,rfl,x,rfl,Prod.ext rfl h0⟩;show Cy (B2 x.data).1=true;revert h0;unfold B2
   repeat' split
   ·simp
   ·simp
   ·rename_i h;intro _;simpa using h
   ·simp
theorem hdr_pos {g:Sg} (h:(D4 b g).2=true):20≤(D4 b g).1∧(D4 b g).1≤b.length:=by
 unfold D4 at h ⊢;simp only [Bool.and_eq_true,decide_eq_true_eq] at h;have:=hdrOf_fine h.1.1;exact⟨this.1,this.2.1⟩
theorem active_pos {g:Sg} (h:(Bn d g).1.2.2=true):20≤(Bn d g).1.1:=by
 unfold Bn at h ⊢;rcases hf:Kk d (Ad g.num) with _|x
 ·rw [hf] at h;cases h
 ·rw [hf] at h;dsimp only at h ⊢;split at h
  ·cases h
  ·rename_i hc;rw [γ hc];have:=hdr_pos (b:=x.data) (g:=g) (by simpa using hc);show 20≤(Bt _ _ _ _).2;unfold Bt;simp only;omega
theorem plan_bad {d:Af} (h:(Bq d).1.2≠0):(Bq d).1.1=Ay:=by
 unfold Bq Lv Il at h ⊢
 repeat' split
 all_goals first
  |rfl
  |(exfalso;simp_all)
theorem strays_sub (d:Af) (t:Bool) (m:Da) (h:Fs d.files):(straysD d t m).Pairwise (fun a b=>bytesBefore a b=true)∧ ∀ n∈straysD d t m,∃ x,Bf d.files n=some x:=by
 unfold straysD;refine⟨List.Pairwise.filter _ (List.pairwise_map.2 h),fun n hn=> ?_⟩;obtain⟨h1,_⟩:=List.mem_filter.1 hn;obtain⟨f,hf,rfl⟩:=List.mem_map.1 h1;rcases ha:Bf d.files f.name with _|x
 ·have:=List.find?_eq_none.1 ha f hf;simp at this
 ·exact⟨x,rfl⟩
theorem plan_good (h:(Bq d).1.2=0):(Bq d).1.1.man.snapSeq≤(Bq d).1.1.last∧0<(Bq d).1.1.cut∧ ∃ t m,(Bq d).1.1.remove=straysD d t m:=by
 unfold Bq at h ⊢;split at h
 ·rename_i h1;exfalso;simp only at h;split at h
  ·cases h
  ·exact h1 h
 ·rename_i h1;rw [γ h1];split at h
  ·rename_i h2;rw [κ h2];unfold Il at h ⊢;split at h
   ·cases h
   ·rename_i h3;simp only [γ h3];exact⟨by decide,by decide,_,_,rfl⟩
  ·rename_i h2;rw [γ h2];simp only at h ⊢;unfold Lv at h ⊢;split at h
   ·cases h
   ·rename_i h3;rw [γ h3];split at h
    ·cases h
    ·rename_i h4;rw [γ h4];split at h
     ·cases h
     ·rename_i h5;rw [γ h5];have ha:(Bn d (Ah (B6 d).1.1)).1.2.2=true:=by
       rcases hx:(Bn d (Ah (B6 d).1.1)).1.2.2
       ·exact absurd (.inl hx) h5
       ·rfl
      have hp:=active_pos ha;have h6: ¬ (Ah (B6 d).1.1).first - 1+((Bn d (Ah (B6 d).1.1)).1.2.1:Int)<(B6 d).1.1.snapSeq:=fun h=>h5 (.inr h);simp only;exact⟨by omega,by omega,_,_,rfl⟩
def Iz (ss:List (List UInt8)):Pl:=⟨true,Ap,ss,22,0⟩
theorem stray_open (hd:d.down=false) (hn: ∀ f∈d.files,Ao f.name=true) {t:Bool} {m:Da}  (h:n∈straysD d t m):Av d n=0∧(Bi d (Ek n)).2.2.1=(sizeN d n:Int):=by
 unfold straysD at h;obtain⟨h1,_⟩:=List.mem_filter.1 h;obtain⟨f,hf,rfl⟩:=List.mem_map.1 h1;rcases ha:Bf d.files f.name with _|x
 ·have:=List.find?_eq_none.1 ha f hf;simp at this
 ·have ho:Av d f.name=0:=by unfold Av;rw [hd,hn f hf,ha];rfl
  refine⟨ho,?_⟩;rw [sizeO ho ha,Pr ha]
theorem strays_len (d:Af) (t:Bool) (m:Da):(straysD d t m).length≤d.files.length:=by
 unfold straysD;refine η (List.length_filter_le _ _) ?_;simp
theorem sizesN_snoc (d:Af) (a:List (List UInt8)) (n:List UInt8):sizesN d (a++[n])=sizesN d a+sizeN d n:=by simp [sizesN]
theorem strays_nodup (h:Fs d.files) (t:Bool) (m:Da):(straysD d t m).Nodup:=(strays_sub d t m h).1.imp fun h=>Ip h
theorem sizesN_take (d:Af): ∀ (ss:List (List UInt8)) (k:Nat),sizesN d (ss.take k)≤sizesN d ss
 | [],k=>by simp
 |x::r,0=>by simp [sizesN]
 |x::r,k+1=>by
  have:=sizesN_take d r k
  simp only [sizesN,List.take_succ_cons,List.map_cons,List.sum_cons] at this ⊢
  omega
def FreshP (w:World) (r:Pl×Int) (e:Ending) (w':World):Prop:=
 ∃ sv rv,e= .returned (.tuple #[plV r.1 sv rv,Vi Vk r.2])∧Fu (fun k=>w.heap.size≤k) w' sv r.1.man.segs∧StIn (fun k=>w.heap.size≤k) w' rv r.1.remove∧sv.oneCell'=true∧rv.oneCell'=true∧Below w.heap.size w w'
theorem J4 (A:Nat→Prop) (w:World):StIn A w (.slice none 0 0) []:=⟨none,0,rfl,μ _,by decide,fun i g hg=>by simp at hg⟩
theorem freshG_any (w:World) (f m:Nat) (d:Af) (L:List Aq) (h:Bv w f m d L) (hdn:d.down=false) (hn:Bh w):
  Calls prog 86 #[.pointer (some ⟨f,0,none⟩)] w (FreshP w (Il d)):=by
 have HH:=Qh h;have HDN:=Qh hdn;have HNB:=Qh hn;have hrm:=h.ok.room;have hus:=h.ok.used;have HSN:=Qh (fun n (hm:n∈straysD d false Ap)=>stray_open hdn h.ok.names hm);have HSL:=Qh (strays_len d false Ap);have hcn:=h.ok.count;have HLL:=Qs (L.length=d.files.length) (by rw [←h.fil];simp [Js]);have HSZ:=Qh (sizesN_le (ns:=straysD d false Ap) h.ok.rise (strays_nodup h.ok.rise false Ap));have HFD:=Qs (Il d=if d.room - (usedF d.files:Int)+(sizesN d (straysD d false Ap):Int)<51∨700<(d.files.length:Int) - ((straysD d false Ap).length:Int)+2 then (Ay,54) else (Iz (straysD d false Ap),0)) rfl;have HSTR:=Qh (fun W (hb:Below w.heap.size w W) mn sv=>strays_not W f m d L (h.below hb) hdn mn sv);have HRF:=Qh (fun(W:World) (hb:Below w.heap.size w W)=>h.below hb);have HB0:=Qh (Aa w (.cells #[.bool false,Vi Vk 0,Vi Vk 0,Vi Vk 0,Vi Vk 0,Vi Vk 0,.slice none 0 0,.slice none 0 0,Vi Vk 0,Vi Vk 0] 75));have HR0:=Qs (Cb (w.alloc (.cells #[.bool false,Vi Vk 0,Vi Vk 0,Vi Vk 0,Vi Vk 0,Vi Vk 0,.slice none 0 0,.slice none 0 0,Vi Vk 0,Vi Vk 0] 75)) w.heap.size Ay (.slice none 0 0) (.slice none 0 0)) (Hv w Ay (.slice none 0 0) (.slice none 0 0));obtain⟨ss,hss⟩: ∃ ss,ss=straysD d false Ap:=⟨_,rfl⟩;have hss1: ∀ mn,mn=Ap→straysD d false mn=ss:=fun mn e=>by rw [e,hss]
 have HSTR:=Qh (fun W hb sv=>by have:=HSTR.out W hb Ap sv;rw [hss1 Ap rfl] at this;exact this);rw [←hss] at HSN HSL HSZ HFD;have HFD2:=Qs (Il d=if d.room - (usedF d.files:Int)+(sizesN d ss:Int)<51∨700<(d.files.length:Int) - (ss.length:Int)+2 then (Ay,54) else (Iz ss,0)) HFD.out;clear h hdn hn hss hss1 HFD;obtain⟨U,hU⟩: ∃ U,U=usedF d.files:=⟨_,rfl⟩;rw [←hU] at hus HSZ HFD2;have HUU:=Qh hU;clear hU;go_enter func86,ntmps86;go_wp2_with fail;refine(first_any _).mono ?_;rintro e w1 ⟨sv,rfl,hsg,hone,hb1⟩;have HB1:=Qh (Below.next HB0.out hb1);have HR1:=Qh (HR0.out.below hb1);have HSG:=Qh (hsg.mono (A':=fun k=>w.heap.size+1≤k) (fun k hk=>by simp at hk;omega));obtain⟨osg,scap,rfl,_,_,_⟩:=hsg;have HMz:=Qh (Ca w1 zeroM (.slice none 0 0));simp only [B3,zeroM] at HMz;clear hb1 HB0 HR0 hone;go_wp2_with (with_reducible refine Bp rfl (.tmp 4) (.tmp 13) rfl w1.heap.size ⟨0,0,0,0,0,[]⟩ Ap (.slice none 0 0) (.slice osg Ap.segs.length scap) rfl rfl HMz.out rfl ?_);intro w2 hw2;have hba:=Aa w1 (.cells #[Vi Vk 0,Vi Vk 0,Vi Vk 0,Vi Vk 0,Vi Vk 0,.slice none 0 0] 69);have HM2:=Qs (At w2 w1.heap.size Ap (.slice osg Ap.segs.length scap)) (by rw [hw2.out];exact HMz.out.row);have HBW:=Qs (Below w1.heap.size w1 w2) (by rw [hw2.out];exact Bw hba (μ _) _);have HB2:=Qh (Below.next HB1.out HBW.out);have HR2:=Qh (HR1.out.below HBW.out);have HSG2:=Qh (HSG.out.below HBW.out);clear hw2 hba HMz HB1 HR1 HSG HBW;generalize w1.heap.size=b4 at*;have HHD:=Qh (header_any 1 1 w2 (HNB.out.below HB2.out));obtain⟨er,her⟩: ∃ y,y=Hs 1 1:=⟨_,rfl⟩;have HL:=Qs (er.1.length=22) (by rw [her];exact G3.1);rw [←her] at HHD;clear her;go_wp2_with fail;refine HHD.out.mono ?_;rintro e w3 ⟨v3,rfl,ho3,hb3⟩;obtain⟨o3,cap3,rfl,_,_⟩:=Aj ho3;rw [HL.out];have HM3:=Qh (HM2.out.below hb3);have HB3:=Qh (Below.next HB2.out hb3);have HR3:=Qh (HR2.out.below hb3);have HSG3:=Qh (HSG2.out.below hb3);have HNB3:=Qh (HNB.out.below HB3.out);clear ho3 hb3 HHD HM2 HB2 HR2 HSG2 HL;go_upto_region 3 with fail
 go_cut [7] from 18 to 24 (fun p wx=> ∃ g rv,p= .pointer (some ⟨g,0,none⟩)∧Hid (Cb wx g (Iz ss) (.slice osg Ap.segs.length scap) rv)∧Hid (wx.ownsRow w3.heap.size 9 1 rv ss.length (ss.map encStr))∧Hid (Below w3.heap.size w3 wx))
 case first=>
  refine ε (S:=fun w'=>Below w3.heap.size w3 w') (by kernel_rfl) (show Below w3.heap.size w3 w3.drew from Ac w3 1) (fun hHeld=> ?_);refine tkl 0 b4 0 [Vi Vk 1,Vi Vk 2,Vi Vk 0,Vi Vk 0,Vi Vk 0,.slice osg Ap.segs.length scap] rfl rfl (fun w' h j v hv=>by rw [Nat.zero_add,(HM3.out.below h).cell];simpa [B3,Ap] using hv) underlying69 rfl (by rw [Ko];rfl) ?_;simp only [pA,pB,pC,pD];refine tq 1 rfl ?_;refine tq 2 rfl ?_;refine tq 3 rfl ?_;refine tkl 4 b4 0 [Vi Vk 1,Vi Vk 2,Vi Vk 0,Vi Vk 0,Vi Vk 0,.slice osg Ap.segs.length scap] rfl rfl (fun w' h j v hv=>by rw [Nat.zero_add,(HM3.out.below h).cell];simpa [B3,Ap] using hv) underlying69 rfl (by rw [Ko];rfl) ?_;simp only [pA,pB,pC,pD];generalize World.drew _=Wd at*;refine wpAnyH_ready (rs:=[5,7]) (by kernel_rfl) (by simp) ?_;refine AllReadyH.cons rfl (fun K hK=> ?_) (AllReadyH.cons rfl (fun K hK=> ?_) AllReadyH.nil)
  ·go_simp;go_at_call 90;refine(HSTR.out Wd (Below.next HB3.out hHeld) _).mono ?_;rintro e w4 ⟨v4,rfl,ho4,hb4⟩;have HO4:=Qh (Oj ho4 hHeld.size);obtain⟨o4,cap4,rfl,_,_⟩:=Aj ho4;have HB4:=Qh (Below.next hHeld hb4);clear ho4 hb4 hHeld;go_wp2_with fail;refine hK.out _ _ HB4.out (fun hHeld=> ?_);clear hK K;refine tq 6 rfl ?_;have HBA:=Qh (Aa w4 (.cells #[.bool false,Vi Vk 0,Vi Vk 0,Vi Vk 0,Vi Vk 0,Vi Vk 0,.slice none 0 0,.slice none 0 0,Vi Vk 0,Vi Vk 0] 75));have HB5:=Qh (Below.next HB4.out HBA.out);have HGZ:=Qs (Cb (w4.alloc (.cells #[.bool false,Vi Vk 0,Vi Vk 0,Vi Vk 0,Vi Vk 0,Vi Vk 0,.slice none 0 0,.slice none 0 0,Vi Vk 0,Vi Vk 0] 75)) w4.heap.size Ay (.slice none 0 0) (.slice none 0 0)) (Hv w4 Ay (.slice none 0 0) (.slice none 0 0));have hgx:w3.heap.size≤w4.heap.size:=HB4.out.size;refine Rd 7 rfl fun K hK=> ?_;go_simp;refine hK.out _ _ HB5.out (fun hHeld=> ?_);clear hK K HB4 hHeld;refine Rd 8 rfl fun K hK=> ?_;rw [κ (by kernel_rfl)];refine wp_store_row 75 (.tmp 7) (.tmp 24) rfl w4.heap.size (Gf (Iz ss) (.slice osg Ap.segs.length scap) (.slice o4 ss.length cap4)) rfl rfl 75 (Gf Ay (.slice none 0 0) (.slice none 0 0)) HGZ.out plInfo rfl (plCs_all _ _ _ rfl rfl) ?_;have HG6:=Qs (Cb ((w4.alloc (.cells #[.bool false,Vi Vk 0,Vi Vk 0,Vi Vk 0,Vi Vk 0,Vi Vk 0,.slice none 0 0,.slice none 0 0,Vi Vk 0,Vi Vk 0] 75)).setRow w4.heap.size (Gf (Iz ss) (.slice osg Ap.segs.length scap) (.slice o4 ss.length cap4))) w4.heap.size (Iz ss) (.slice osg Ap.segs.length scap) (.slice o4 ss.length cap4)) HGZ.out.row;have HBR:=Qs (Below w4.heap.size w4 ((w4.alloc (.cells #[.bool false,Vi Vk 0,Vi Vk 0,Vi Vk 0,Vi Vk 0,Vi Vk 0,.slice none 0 0,.slice none 0 0,Vi Vk 0,Vi Vk 0] 75)).setRow w4.heap.size (Gf (Iz ss) (.slice osg Ap.segs.length scap) (.slice o4 ss.length cap4)))) (Bw HBA.out (μ _) _);have HB6:=Qs (Below w3.heap.size w3 ((w4.alloc (.cells #[.bool false,Vi Vk 0,Vi Vk 0,Vi Vk 0,Vi Vk 0,Vi Vk 0,.slice none 0 0,.slice none 0 0,Vi Vk 0,Vi Vk 0] 75)).setRow w4.heap.size (Gf (Iz ss) (.slice osg Ap.segs.length scap) (.slice o4 ss.length cap4)))) (Bw HB5.out hgx _);have HO6:=Qh (A2 HO4.out HBR.out);refine hK.out _ _ HB6.out (fun hHeld=> ?_);clear hK K hHeld HGZ HB5;refine Ξ (by kernel_rfl) ?_ _;generalize (w4.alloc (.cells #[.bool false,Vi Vk 0,Vi Vk 0,Vi Vk 0,Vi Vk 0,Vi Vk 0,.slice none 0 0,.slice none 0 0,Vi Vk 0,Vi Vk 0] 75)).setRow w4.heap.size (Gf (Iz ss) (.slice osg Ap.segs.length scap) (.slice o4 ss.length cap4))=W6 at*;go_wp2_with fail;go_meet;exact⟨_,_,rfl,HG6,HO6,HB6⟩
  ·have HBz:=Qh (Below.next hHeld (Aa Wd (.cells #[.bool false,Vi Vk 0,Vi Vk 0,Vi Vk 0,Vi Vk 0,Vi Vk 0,.slice none 0 0,.slice none 0 0,Vi Vk 0,Vi Vk 0] 75)));have HGZ:=Qs (Cb (Wd.alloc (.cells #[.bool false,Vi Vk 0,Vi Vk 0,Vi Vk 0,Vi Vk 0,Vi Vk 0,.slice none 0 0,.slice none 0 0,Vi Vk 0,Vi Vk 0] 75)) Wd.heap.size Ay (.slice none 0 0) (.slice none 0 0)) (Hv Wd Ay (.slice none 0 0) (.slice none 0 0));have hgx:w3.heap.size≤Wd.heap.size:=hHeld.size;have hgz:Wd.heap.size<(Wd.alloc (.cells #[.bool false,Vi Vk 0,Vi Vk 0,Vi Vk 0,Vi Vk 0,Vi Vk 0,.slice none 0 0,.slice none 0 0,Vi Vk 0,Vi Vk 0] 75)).heap.size:=HGZ.out.lt;go_simp;refine hK.out _ _ HBz.out (fun hHeld=> ?_);clear hK K;generalize Wd.heap.size=gx at*;generalize Wd.alloc (.cells #[.bool false,Vi Vk 0,Vi Vk 0,Vi Vk 0,Vi Vk 0,Vi Vk 0,.slice none 0 0,.slice none 0 0,Vi Vk 0,Vi Vk 0] 75)=Wz at*;refine Rd 5 rfl fun K hK=> ?_;go_simp;go_at_call 90;refine(HSTR.out Wz (Below.next HB3.out hHeld) _).mono ?_;rintro e W5 ⟨v4,rfl,ho4,hb5⟩;have HO4:=Qh ho4;obtain⟨o4,cap4,rfl,_,_⟩:=Aj ho4;have HB5:=Qh (Below.next hHeld hb5);have HGZ:=Qh (HGZ.out.below hb5);have hsz:=hHeld.size;clear ho4 hb5 hHeld HBz;go_wp2_with fail;refine hK.out _ _ HB5.out (fun hHeld=> ?_);clear hK K;refine tq 6 rfl ?_;refine Rd 8 rfl fun K hK=> ?_;rw [κ (by kernel_rfl)];refine wp_store_row 75 (.tmp 7) (.tmp 24) rfl gx (Gf (Iz ss) (.slice osg Ap.segs.length scap) (.slice o4 ss.length cap4)) rfl rfl 75 (Gf Ay (.slice none 0 0) (.slice none 0 0)) HGZ.out plInfo rfl (plCs_all _ _ _ rfl rfl) ?_;have HG6:=Qs (Cb (W5.setRow gx (Gf (Iz ss) (.slice osg Ap.segs.length scap) (.slice o4 ss.length cap4))) gx (Iz ss) (.slice osg Ap.segs.length scap) (.slice o4 ss.length cap4)) HGZ.out.row;have HB6:=Qs (Below w3.heap.size w3 (W5.setRow gx (Gf (Iz ss) (.slice osg Ap.segs.length scap) (.slice o4 ss.length cap4)))) (Bw HB5.out hgx _);have HO6:=Qh (Oj (own_setRow HO4.out hgz (Gf (Iz ss) (.slice osg Ap.segs.length scap) (.slice o4 ss.length cap4))) hsz);refine hK.out _ _ HB6.out (fun hHeld=> ?_);clear hK K hHeld HGZ HB5;generalize W5.setRow gx (Gf (Iz ss) (.slice osg Ap.segs.length scap) (.slice o4 ss.length cap4))=W6 at*;refine Ξ (by kernel_rfl) ?_ _;go_wp2_with fail;go_meet;exact⟨_,_,rfl,HG6,HO6,HB6⟩
 case rest=>
  obtain⟨gx,rv,rfl,HG6,HO6,HB6⟩:=hcut;obtain⟨orv,rcap,rfl,_,_⟩:=Aj HO6.out;have HBW:=Qh (Below.next HB3.out HB6.out);have HFR:=Qh (free_any wc f m d L (HRF.out wc HBW.out));rw [←HUU.out] at HFR;go_wp2_with fail;refine HFR.out.mono ?_;rintro e w7 ⟨rfl,hb7⟩;have HB7:=Qh (Below.next HB6.out hb7);have HG7:=Qh (HG6.out.below hb7);have HO7:=Qh (A2 HO6.out hb7);have r7:=HG7.out.c7;clear hb7 HFR HG6 HO6 HB6 HBW;go_wp2;go_loopw [8,30] (fun rmv iv wr=> ∃ k:Nat,k≤ss.length∧iv= Vi Vk (k:Int)∧rmv= Vi Vk (d.room - (U:Int)+(sizesN d (ss.take k):Int))∧Hid (Below w7.heap.size w7 wr)) (fun _ iv _=>ss.length - (intOf iv).toNat)
  case atStart=>exact⟨0,θ _,rfl,by simp [sizesN],Qh (χ _ _)⟩
  case round=>
   obtain⟨k,hk,rfl,rfl,HB⟩:=hrel;by_cases hlt:k<ss.length
   ·obtain⟨x,hx,htk,hm⟩:=Pj ss k hlt;have q1:(k:Int)<(ss.length:Int):=by omega
    obtain⟨g7,cap7,e7,_,_,_,_,hcl⟩:=Dr HO7.out (by omega);simp only [Value.slice.injEq,true_and] at e7;obtain⟨rfl,rfl⟩:=e7;have k1:wr.cell? ⟨g7,k,none⟩=some (.string ⟨x.toArray⟩):=cell_later HB.out (hcl k _ (by rw [List.getElem?_map,hx];rfl));have HSI:=Qh (Ol wr f m d L (HRF.out wr (Below.next HB3.out (Below.next HB7.out HB.out))) x);rw [(HSN.out x hm).2] at HSI;generalize (Bi d (Ek x)).2.2.2=ex at*;have HTK:=Qs (sizesN d (ss.take (k+1))=sizesN d (ss.take k)+sizeN d x) (by rw [htk,sizesN_snoc]);have hle:sizesN d (ss.take (k+1))≤U:=η (sizesN_take d ss (k+1)) HSZ.out;rw [HTK.out] at hle;obtain⟨a,ha⟩: ∃ a,a=sizesN d (ss.take k):=⟨_,rfl⟩;obtain⟨n,hn⟩: ∃ n,n=sizeN d x:=⟨_,rfl⟩;rw [←ha,←hn] at hle HTK;rw [←hn] at HSI;rw [←ha];have hw1:IntKind.i64.wrap (d.room - (U:Int)+(a:Int)+(n:Int))=d.room - (U:Int)+((a+n:Nat):Int):=by rw [ν];omega
    have hk1:IntKind.i64.wrap ((k:Int)+1)=(k:Int)+1:=by have:=HSL.out;rw [ν];omega
    clear hx htk hm hcl ha hn hle;go_wp2_with fail;refine HSI.out.mono ?_;rintro e w8 ⟨rfl,rfl⟩;go_wp2;go_roundw
    case rel=>exact⟨k+1,by omega,by go_num,by rw [HTK.out];congr 1,HB⟩
    case measure=>simp [intOf];omega
   ·obtain rfl:k=ss.length:=by omega
    rw [List.take_length];have HBC:=Qh (Below.next HB7.out HB.out);have HG8:=Qh (HG7.out.below HB.out);have HR8:=Qh (HR3.out.below HBC.out);have HM8:=Qh (HM3.out.below HBC.out);have HS8:=Qh (HSG3.out.below HBC.out);have HO8:=Qh (stIn_own (A:=fun k=>w3.heap.size≤k) (l:=ss) (A2 HO7.out HB.out) (fun _ h=>h));obtain⟨R,hR⟩: ∃ R,R=d.room - (U:Int)+(sizesN d ss:Int):=⟨_,rfl⟩;rw [←hR] at HFD2;rw [←hR];clear hR;generalize ss.length=ns at*;have hw51:IntKind.i64.wrap 51=51:=by decide
    go_wp2_with fail;refine ε (S:=fun w'=>Below wr.heap.size wr w') (by kernel_rfl) (show Below wr.heap.size wr wr.drew from Ac wr 1) (fun hHeld=> ?_);refine tq 0 rfl ?_;refine tq 1 rfl ?_;refine tq 2 rfl ?_;refine tkl 3 b4 0 [Vi Vk 1,Vi Vk 2,Vi Vk 0,Vi Vk 0,Vi Vk 0,.slice osg Ap.segs.length scap] rfl rfl (fun w' h j v hv=>by rw [Nat.zero_add,(HM8.out.below h).cell];simpa [B3,Ap] using hv) underlying69 rfl (by rw [Ko];rfl) ?_;simp only [pA,pB,pC,pD];generalize World.drew _=We at*;refine Rd 4 rfl fun K hK=> ?_;go_simp;go_at_call 81;refine(manSize_any Ap (.slice osg Ap.segs.length scap) We (HS8.out.row.below hHeld) ((HNB3.out.below HBC.out).below hHeld)).mono ?_;rw [G3.2];rintro e w9 ⟨rfl,hb9⟩;have HB9:=Qh (Below.next hHeld hb9);clear hb9 hHeld;go_wp2_with fail;refine hK.out _ _ HB9.out (fun hHeld=> ?_);clear hK K;rcases hr:decide (R<51) with _|_
    ·have HR1:=Qs (51≤R) (by simpa using hr);refine tq 5 rfl ?_;refine tq 6 rfl ?_;refine tq 7 rfl ?_;have FX1:=Qh (fun(wF:World) (hSw:(fun w'=>Below wr.heap.size wr w') wF)=>((HG8.out.below hSw).c7));refine tf FX1 8 rfl ?_;refine tf FX1 11 rfl ?_;refine tf FX1 12 rfl ?_;refine tf FX1 13 rfl ?_;clear FX1;refine Rd 9 rfl fun K hK=> ?_;go_simp;go_at_call 82;refine(list_any w9 f m d L (HRF.out w9 (Below.next HB3.out (Below.next HBC.out HB9.out))) HDN.out).mono ?_;rintro e w10 ⟨vl,rfl,hol,hb10⟩;obtain⟨ol,lcap,rfl,_,_⟩:=Aj hol;rw [HLL.out];have HB10:=Qh (Below.next HB9.out hb10);have hnl:=HSL.out;obtain⟨nf,hnf⟩: ∃ nf,nf=d.files.length:=⟨_,rfl⟩;rw [←hnf] at hcn HFD2 hnl;rw [←hnf];have hw1:IntKind.i64.wrap ((nf:Int) - (ns:Int))=(nf:Int) - (ns:Int):=by rw [ν];omega
     have hw2:IntKind.i64.wrap ((nf:Int) - (ns:Int)+2)=(nf:Int) - (ns:Int)+2:=by rw [ν];omega
     clear hol hb10 hHeld hnf hnl;go_wp2_with fail;refine hK.out _ _ HB10.out (fun hHeld=> ?_);clear hK K;have HG9:=Qh (HG8.out.below HB10.out);have HR9:=Qh (HR8.out.below HB10.out);have HBE:=Qh (Below.next HB3.out (Below.next HBC.out HB10.out));have HS9:=Qh (HS8.out.below HB10.out);have HO9:=Qh (HO8.out.below HB10.out);rcases h7:decide (700<(nf:Int) - (ns:Int)+2) with _|_
     ·have HFE:=Qs (Il d=(Iz ss,0)) (by rw [HFD2.out,γ];rintro(h|h);exact absurd HR1.out (by omega);have:=Γ h7;exact this h);refine tq 10 rfl ?_;refine tq 14 rfl ?_;refine tq 15 rfl ?_;refine tq 16 rfl ?_;refine tq 17 rfl ?_;refine Ξ (by kernel_rfl) ?_ _;clear hHeld;go_wp2_with (first|(with_reducible refine Na rfl (.tmp 7) rfl gx (Iz ss) (.slice osg Ap.segs.length scap) (.slice orv ns rcap) rfl HG9.out ?_)|(with_reducible refine Bz rfl (.tmp 2) (.tmp 63) rfl w.heap.size Ay (Iz ss) (.slice none 0 0) (.slice none 0 0) (.slice osg Ap.segs.length scap) (.slice orv ns rcap) rfl rfl HR9.out rfl rfl ?_));intro w11 hw11;have HT:=Qh (show Ab (fun k=>k=w.heap.size) w10 w11 by rw [hw11.out];exact Ax _ _ _);have HP:=Qs (Cb w11 w.heap.size (Iz ss) (.slice osg Ap.segs.length scap) (.slice orv ns rcap)) (by rw [hw11.out];exact HR9.out.row);have HB11:=Qs (Below w.heap.size w w11) (by rw [hw11.out];exact Bw HBE.out (μ _) _);have hsz3:=HB3.out.size;have hwl:w.heap.size<w3.heap.size:=HR3.out.lt;clear hw11;go_wp2;refine π (v:= .tuple #[plV (Iz ss) (.slice osg Ap.segs.length scap) (.slice orv ns rcap),Vi Vk 0]) (Cz rfl _ _ w.heap.size (Iz ss) _ _ _ rfl rfl HP.out) rfl ?_;rw [HFE.out];exact⟨_,_,rfl,(HS9.out.turned HT.out (fun k hk=>by omega)).mono (fun k hk=>by omega),(HO9.out.turned HT.out (fun k hk=>by omega)).mono (fun k hk=>by omega),rfl,rfl,HB11.out⟩
     ·have HFE:=Qs (Il d=(Ay,54)) (by rw [HFD2.out,κ];exact .inr (ψ h7));refine tq 10 rfl ?_;refine tq 14 rfl ?_;refine tq 15 rfl ?_;refine tq 16 rfl ?_;refine tq 17 rfl ?_;refine Ξ (by kernel_rfl) ?_ _;clear hHeld;go_wp2_with (with_reducible refine Bz rfl (.tmp 2) (.tmp 62) rfl w.heap.size Ay Ay (.slice none 0 0) (.slice none 0 0) (.slice none 0 0) (.slice none 0 0) rfl rfl HR9.out rfl rfl ?_);intro w11 hw11;have HP:=Qs (Cb w11 w.heap.size Ay (.slice none 0 0) (.slice none 0 0)) (by rw [hw11.out];exact HR9.out.row);have HB11:=Qs (Below w.heap.size w w11) (by rw [hw11.out];exact Bw HBE.out (μ _) _);clear hw11;go_wp2;refine π (v:= .tuple #[plV Ay (.slice none 0 0) (.slice none 0 0),Vi Vk 54]) (Cz rfl _ _ w.heap.size Ay _ _ _ rfl rfl HP.out) rfl ?_;rw [HFE.out];exact⟨_,_,rfl,D8 _ _,J4 _ _,rfl,rfl,HB11.out⟩
    ·have HFE:=Qs (Il d=(Ay,54)) (by rw [HFD2.out,κ];exact .inl (ψ hr));refine tq 5 rfl ?_;refine tq 6 rfl ?_;refine tq 7 rfl ?_;refine tkn 8 rfl ?_;simp only [pA,pB,pC,pD];refine tkn 9 rfl ?_;simp only [pA,pB,pC,pD];refine tkn 10 rfl ?_;simp only [pA,pB,pC,pD];refine tkn 11 rfl ?_;simp only [pA,pB,pC,pD];refine tkn 12 rfl ?_;simp only [pA,pB,pC,pD];refine tkn 13 rfl ?_;simp only [pA,pB,pC,pD];refine tkn 14 rfl ?_;simp only [pA,pB,pC,pD];refine tkn 15 rfl ?_;simp only [pA,pB,pC,pD];refine tkn 16 rfl ?_;simp only [pA,pB,pC,pD];refine tq 17 rfl ?_;refine Ξ (by kernel_rfl) ?_ _;have HRE:=Qh (HR8.out.below HB9.out);have HBE:=Qh (Below.next HB3.out (Below.next HBC.out HB9.out));clear hHeld;go_wp2_with (with_reducible refine Bz rfl (.tmp 2) (.tmp 62) rfl w.heap.size Ay Ay (.slice none 0 0) (.slice none 0 0) (.slice none 0 0) (.slice none 0 0) rfl rfl HRE.out rfl rfl ?_);intro w11 hw11;have HP:=Qs (Cb w11 w.heap.size Ay (.slice none 0 0) (.slice none 0 0)) (by rw [hw11.out];exact HRE.out.row);have HB11:=Qs (Below w.heap.size w w11) (by rw [hw11.out];exact Bw HBE.out (μ _) _);clear hw11;go_wp2;refine π (v:= .tuple #[plV Ay (.slice none 0 0) (.slice none 0 0),Vi Vk 54]) (Cz rfl _ _ w.heap.size Ay _ _ _ rfl rfl HP.out) rfl ?_;rw [HFE.out];exact⟨_,_,rfl,D8 _ _,J4 _ _,rfl,rfl,HB11.out⟩
def Dh (fs:List Bl) (n:List UInt8):Option (List UInt8):=(Bf fs n).map (·.data)
theorem Dm (h:Dh fs n=some b): ∃ x,Bf fs n=some x∧x.data=b:=by
 unfold Dh at h;rcases ha:Bf fs n with _|x
 ·rw [ha] at h;cases h
 ·rw [ha] at h;exact⟨x,rfl,by simpa using h⟩
theorem D5 (h:Bf fs n=some x):Dh fs n=some x.data:=by unfold Dh;rw [h];rfl
theorem Ki (h:Bf fs n=none):Dh fs n=none:=by unfold Dh;rw [h];rfl
def stand (room:Int) (fs:List Bl):Af:=⟨fs,room,0,false,0,0⟩
theorem Nk (hok:A0 d) (hd:d.down=false) (n:List UInt8):Kk d n=Bf d.files n:=by
 unfold Kk Av;rw [hd];rcases ha:Bf d.files n with _|x
 ·simp
 ·have:=hok.names x (B8 ha).2;rw [(B8 ha).1] at this;simp [this]
def snapB (o:Option (List UInt8)) (m:Da):Bool:=
 if 0<m.snap then match o with
  |none=>false
  |some b=>match decBook b with
   |none=>false
   |some r=>decide ((r.1:Int)=m.snap)&&decide ((r.2.1:Int)=m.snapSeq)
 else true
theorem bookV_off {n:Int} (h:Kk d (Cs n)=none):J9 d n=((Av d (Cs n),0,[]),0):=by unfold J9;rw [h]
theorem bookV_bad {n:Int}  (h:Kk d (Cs n)=some x) (h2:decBook x.data=none):J9 d n=((81,0,[]),x.data.length):=by unfold J9;rw [h];dsimp only;rw [h2]
theorem bookV_in {n:Int}  {r:Nat×Nat×List St} (h:Kk d (Cs n)=some x) (h2:decBook x.data=some r):J9 d n=if (r.1:Int)≠n then ((81,0,[]),x.data.length) else ((0,r.2.1,r.2.2),x.data.length):=by unfold J9;rw [h];dsimp only;rw [h2]
theorem snapV_on (hok:A0 d) (hd:d.down=false) (m:Da):(I0 d m).1=snapB (Dh d.files (Cs m.snap)) m:=by
 unfold I0 snapB;split
 ·rcases ha:Bf d.files (Cs m.snap) with _|x
  ·rw [Ki ha];have:Av d (Cs m.snap)≠0:=fun e=>by
    obtain⟨_,_,y,hy⟩:=Kq e;rw [ha] at hy;cases hy
   rw [bookV_off (by rw [Nk hok hd];exact ha)];simp [this]
  ·rw [D5 ha];have hf:Kk d (Cs m.snap)=some x:=by rw [Nk hok hd];exact ha
   dsimp only;rcases hb:decBook x.data with _|r
   ·rw [bookV_bad hf hb];simp
   ·rw [bookV_in hf hb];by_cases hr:(r.1:Int)=m.snap
    ·simp [hr]
    ·simp [hr]
 ·rfl
def sealB (o:Option (List UInt8)) (g:Sg):Bool:=
 match o with
 |none=>false
 |some b=>if (b.length:Int)≤g.foot then false
  else if (D4 (b.take (min b.length 64)) g).2=false then false
  else match Cn (b.drop g.foot.toNat) g with
   |none=>false
   |some r=>match r.1 with
    | []=>false
    |k::_=>k.p==((D4 (b.take (min b.length 64)) g).1:Int)
theorem sealedV_on (hok:A0 d) (hd:d.down=false) (g:Sg):(Ep d g).1=sealB (Dh d.files (Ad g.num)) g:=by
 unfold Ep;rw [Nk hok hd];rcases ha:Bf d.files (Ad g.num) with _|x
 ·rw [Ki ha];rfl
 ·rw [D5 ha];unfold sealB sealIn;dsimp only;split
  ·rfl
  ·split
   ·rfl
   ·rfl
def sealsB (fs:List Bl) (l:List Sg):Bool:=l.all fun g=>sealB (Dh fs (Ad g.num)) g
theorem sealsV_on {d:Af} (hok:A0 d) (hd:d.down=false): ∀ l:List Sg,(He d l).1=sealsB d.files l
 | []=>rfl
 |g::r=>by
  rw [He]
  have ih:=sealsV_on hok hd r
  have h1:=sealedV_on hok hd g
  unfold sealsB at ih ⊢
  rw [List.all_cons,←ih,←h1]
  rcases (Ep d g).1<;>simp
def I9 (o:Option (List UInt8)) (g:Sg):Nat×Nat×Bool:=
 match o with
 |none=>(0,0,false)
 |some b=>if (D4 b g).2=false then (0,0,false) else ((Bt b (D4 b g).1 (B5 b).2.1 512).2,(Bt b (D4 b g).1 (B5 b).2.1 512).1.length,true)
theorem activeV_on (hok:A0 d) (hd:d.down=false) (g:Sg):(Bn d g).1=I9 (Dh d.files (Ad g.num)) g:=by
 unfold Bn;rw [Nk hok hd];rcases ha:Bf d.files (Ad g.num) with _|x
 ·rw [Ki ha];rfl
 ·rw [D5 ha];unfold I9;dsimp only;split<;>rfl
def Pe (fs:List Bl) (m:Da):Pl×Int:=
 if snapB (Dh fs (Cs m.snap)) m=false∨sealsB fs m.segs.dropLast=false then (Ay,4)
 else if (I9 (Dh fs (A9 m)) (Ah m)).2.2=false∨(Ah m).first - 1+((I9 (Dh fs (A9 m)) (Ah m)).2.1:Int)<m.snapSeq then (Ay,4)
 else (⟨false,m,(fs.map (·.name)).filter (A5 true m),((I9 (Dh fs (A9 m)) (Ah m)).1:Int),(Ah m).first - 1+((I9 (Dh fs (A9 m)) (Ah m)).2.1:Int)⟩,0)
theorem planM_on (hok:A0 d) (hd:d.down=false) (m:Da):(Lv d m).1=Pe d.files m:=by
 unfold Lv Pe;rw [snapV_on hok hd,sealsV_on hok hd,activeV_on hok hd];rw [show Ad (Ah m).num=A9 m from rfl];rcases snapB (Dh d.files (Cs m.snap)) m
 ·simp
 ·rcases sealsB d.files m.segs.dropLast
  ·simp
  ·simp only [Bool.true_eq_false,or_self,if_false,straysD];split<;>rfl
def alien (l:List UInt8):Bool:= !(A5 false zeroM l)
theorem strayN_false (m m':Da) (l:List UInt8):A5 false m l=A5 false m' l:=by
 unfold A5;simp
def Hn (fs:List Bl):List Bl:=fs.filter fun f=>alien f.name
def newB (room:Int) (fs:List Bl):Pl×Int:=
 if room - (usedF (Hn fs):Int)<51∨698<(Hn fs).length then (Ay,54) else (⟨true,Ap,(fs.map (·.name)).filter (A5 false Ap),22,0⟩,0)
theorem strays_alien (fs:List Bl) (m:Da):((fs.map (·.name)).filter (A5 false m)).length+(Hn fs).length=fs.length:=by
 induction fs with
 |nil=>rfl
 |cons f r ih=>
  unfold Hn at ih ⊢;rw [List.map_cons,List.filter_cons,List.filter_cons];unfold alien at ih ⊢;simp only [strayN_false zeroM m] at ih ⊢;rcases A5 false m f.name<;>simp at ih ⊢ <;>omega
theorem strays_used: ∀ (fs:List Bl) (m:Da),Fs fs→(((fs.map (·.name)).filter (A5 false m)).map fun n=>match Bf fs n with|none=>0|some f=>f.data.length).sum+usedF (Hn fs)=usedF fs
 | [],_,_=>rfl
 |f::r,m,h=>by
  obtain⟨h1,h2⟩:=List.pairwise_cons.1 h
  have ih:=strays_used r m h2
  have e:(((r.map (·.name)).filter (A5 false m)).map fun n=>match Bf (f::r) n with|none=>0|some f=>f.data.length)=((r.map (·.name)).filter (A5 false m)).map fun n=>match Bf r n with|none=>0|some f=>f.data.length:=
   List.map_congr_left fun k hk=>by
    obtain⟨hk,_⟩:=List.mem_filter.1 hk
    obtain⟨y,hy,rfl⟩:=List.mem_map.1 hk
    have:=Ip (h1 y hy)
    unfold Bf
    rw [List.find?_cons,show (f.name==y.name)=false by simpa using this]
  have e0:Bf (f::r) f.name=some f:=by unfold Bf;rw [List.find?_cons];simp
  rw [List.map_cons,List.filter_cons]
  unfold Hn at ih ⊢
  rw [List.filter_cons]
  unfold alien at ih ⊢
  simp only [strayN_false zeroM m] at ih ⊢
  rcases hs:A5 false m f.name
  ·simp only [Bool.not_false,if_true,Bool.false_eq_true,if_false] at ih ⊢
   rw [e]
   simp only [usedF,List.map_cons,List.sum_cons] at ih ⊢
   omega
  ·simp only [Bool.not_true,if_true,Bool.false_eq_true,if_false] at ih ⊢
   rw [List.map_cons,List.sum_cons,e,e0]
   simp only [usedF,List.map_cons,List.sum_cons] at ih ⊢
   omega
theorem freshD_on (hok:A0 d):Il d=newB d.room d.files:=by
 unfold Il newB;have h1:=strays_alien d.files Ap;have h2:sizesN d (straysD d false Ap)+usedF (Hn d.files)=usedF d.files:=strays_used d.files Ap hok.rise;have h3:(straysD d false Ap).length+(Hn d.files).length=d.files.length:=h1;by_cases hc:d.room - (usedF (Hn d.files):Int)<51∨698<(Hn d.files).length
 ·rw [κ hc,κ (by omega)]
 ·rw [γ hc,γ (by omega)];rfl
def findB (room:Int) (fs:List Bl):Pl×Int:=
 match Dh fs Aw with
 |none=>newB room fs
 |some b=>if (B2 b).2≠0 then (Ay,4) else Pe fs (B2 b).1
theorem decMan_err (b:List UInt8):(B2 b).2=0∨(B2 b).2=80:=by
 unfold B2
 repeat' split
 all_goals simp
theorem planD_on (hok:A0 d) (hd:d.down=false):(Bq d).1=findB d.room d.files:=by
 unfold Bq findB B6;rw [Nk hok hd];have hr:Ao Aw=true:=by decide
 rcases ha:Bf d.files Aw with _|x
 ·rw [Ki ha];have:Av d Aw=51:=by unfold Av;rw [hd,hr,ha];rfl
  simp only [this,if_true];simp [freshD_on hok]
 ·rw [D5 ha];dsimp only;rcases decMan_err x.data with h0|h0
  ·simp only [h0,ne_eq,not_true_eq_false,if_false];simp [planM_on hok hd]
  ·simp [h0]
theorem Ng (h:i<k):Ci (b.take k) i=Ci b i:=by
 unfold Ci;rw [List.getD_eq_getElem?_getD,List.getD_eq_getElem?_getD,List.getElem?_take_of_lt h]
theorem decF_take (h:(Cg b).2.2=0) (hk:(Cg b).2.1≤k):Cg (b.take k)=Cg b:=by
 have hf:=Jn h;have hp:Db (b.take k)=Db b:=by
  unfold Db;rw [Ng (by omega),Ng (by omega),Ng (by omega),Ng (by omega),List.take_take,Nat.min_eq_left (by omega),
   List.drop_take,List.take_take,Nat.min_eq_left (by omega),ω]
  by_cases hb:b.length<16
  ·rw [κ hb,κ (by omega)]
  ·rw [γ hb,γ (by omega)]
 have hs:(Cg b).2.1=(Db b).2.2.1:=by
  unfold Cg at h ⊢;split at h
  ·rename_i h1;exact absurd h h1
  ·rename_i h1;rw [γ h1];split at h
   ·exact absurd h (by decide)
   ·rename_i h2;rw [γ h2];split at h
    ·exact absurd h (by decide)
    ·rename_i h3;rw [γ h3]
 rw [hs] at hk hf;unfold Cg;rw [hp,List.take_take,Nat.min_eq_left hk,ω];by_cases hb:b.length<(Db b).2.2.1
 ·omega
 ·rw [γ hb,γ (by omega: ¬ min k b.length<(Db b).2.2.1)]
theorem lastEnd_ge {b:List UInt8}: ∀ (n p:Nat) (first most c:Nat),p≤Cd p (takeRun first most c (Hh n b p))
 |0,p,_,_,_=>by rw [Hh,takeRun,Cd];exact μ _
 |n+1,p,first,most,c=>by
  rw [Hh]
  split
  ·rename_i hc
   have hf:=Jn hc.2
   rw [takeRun]
   split
   ·rw [Cd];exact μ _
   ·split
    ·rw [Cd,Cd];omega
    ·rw [Cd]
     have:=lastEnd_ge (b:=b) n (p+(Cg (b.drop p)).2.1) first most (c+1)
     rw [show p+(Cg (b.drop p)).1.body.length+20=p+(Cg (b.drop p)).2.1 by omega]
     omega
  ·rw [takeRun,Cd];exact μ _
theorem takeRun_cut {b:List UInt8} {first most:Nat}: ∀ (n m p c K:Nat),Cd p (takeRun first most c (Hh n b p))=K→b.length≤p+n→K≤p+m→takeRun first most c (Hh m (b.take K) p)=takeRun first most c (Hh n b p)
 |0,m,p,c,K,h,_,_=>by
  rw [Hh,takeRun] at h ⊢
  rw [Cd] at h
  rw [Oc (by rw [ω];omega),takeRun]
 |n+1,m,p,c,K,h,hn,hm=>by
  by_cases hc:p<b.length∧(Cg (b.drop p)).2.2=0
  ·have hf:=Jn hc.2
   rw [Λ] at hf
   rw [O7 hc.1 hc.2] at h ⊢
   rw [takeRun] at h ⊢
   split at h
   ·rename_i h1
    rw [κ h1]
    rw [Cd] at h
    rw [Oc (by rw [ω];omega),takeRun]
   ·rename_i h1
    rw [γ h1]
    have hsz:p+(Cg (b.drop p)).1.body.length+20=p+(Cg (b.drop p)).2.1:=by omega
    have hge:p+(Cg (b.drop p)).2.1≤K:=by
     split at h
     ·rw [Cd,Cd,hsz] at h;omega
     ·rw [Cd,hsz] at h;have:=lastEnd_ge (b:=b) n (p+(Cg (b.drop p)).2.1) first most (c+1);omega
    have hd:Cg ((b.take K).drop p)=Cg (b.drop p):=by
     rw [List.drop_take];exact decF_take hc.2 (by omega)
    obtain⟨m',rfl⟩: ∃ m',m=m'+1:=⟨m - 1,by omega⟩;rw [O7 (by rw [ω];omega) (by rw [hd];exact hc.2),hd,takeRun,γ h1];split
    ·rfl
    ·rename_i h2;rw [γ h2,Cd,hsz] at h;rw [takeRun_cut n m' _ _ K h (by omega) (by omega)]
  ·have e:Hh (n+1) b p=[]:=by rw [Hh,γ hc]
   rw [e,takeRun] at h ⊢;rw [Cd] at h;rw [Oc (by rw [ω];omega),takeRun]
theorem scanRun_cut {b:List UInt8} {p first most:Nat} (_:p≤b.length):Bt (b.take (Bt b p first most).2) p first most=Bt b p first most:=by
 have hk:(Bt b p first most).2=p+Cd 0 (takeRun first most 0 (frs (b.drop p))):=rfl;obtain⟨K,hK⟩: ∃ K,K=Cd 0 (takeRun first most 0 (frs (b.drop p))):=⟨_,rfl⟩;have e:takeRun first most 0 (frs ((b.drop p).take K))=takeRun first most 0 (frs (b.drop p)):=by
  unfold frs at hK ⊢;refine takeRun_cut _ _ 0 0 K hK.symm (by omega) ?_;have hle:K≤(b.drop p).length:=by
   rw [hK];refine Pb _ 0 (θ _) fun x hx=> ?_;have: ∀ (xs:List (Nat×J6)) (c:Nat),∀ y∈takeRun first most c xs,y∈xs:=fun xs=>by
    induction xs with
    |nil=>intro c y h;simp [takeRun] at h
    |cons z r ih=>
     intro c y h;rw [takeRun] at h;split at h
     ·cases h
     ·split at h
      ·simp at h;subst h;simp
      ·rcases Δ.1 h with rfl|h
       ·simp
       ·exact List.mem_cons_of_mem _ (ih (c+1) y h)
   exact(frs_mem (this _ 0 x hx)).1
  rw [ω];omega
 rw [hk,←hK];unfold Bt;rw [List.drop_take,Nat.add_sub_cancel_left,e]
theorem scanRun_bd {b:List UInt8} {p first most:Nat} (hp:p≤b.length):p≤(Bt b p first most).2∧(Bt b p first most).2≤b.length:=by
 have hle:Cd 0 (takeRun first most 0 (frs (b.drop p)))≤(b.drop p).length:=by
  refine Pb _ 0 (θ _) fun x hx=> ?_;have: ∀ (xs:List (Nat×J6)) (c:Nat),∀ y∈takeRun first most c xs,y∈xs:=fun xs=>by
   induction xs with
   |nil=>intro c y h;simp [takeRun] at h
   |cons z r ih=>
    intro c y h;rw [takeRun] at h;split at h
    ·cases h
    ·split at h
     ·simp at h;subst h;simp
     ·rcases Δ.1 h with rfl|h
      ·simp
      ·exact List.mem_cons_of_mem _ (ih (c+1) y h)
  exact(frs_mem (this _ 0 x hx)).1
 rw [Λ] at hle;show p≤p+_∧p+_≤_;omega
theorem hdrOf_take (h:(B5 b).2.2.2=0) (hk:(B5 b).2.2.1≤k):B5 (b.take k)=B5 b:=by
 have h0:(Cg b).2.2=0:=by
  unfold B5 at h;split at h
  ·exact absurd h (by decide)
  ·rename_i hc;rcases Decidable.em ((Cg b).2.2=0) with h|h
   ·exact h
   ·exact absurd (.inl h) hc
 have hs:(B5 b).2.2.1=(Cg b).2.1:=by
  unfold B5 at h ⊢;split at h
  ·exact absurd h (by decide)
  ·rename_i hc;rw [γ hc];split at h
   ·exact absurd h (by decide)
   ·unfold hdrIn at h ⊢;split at h
    ·split at h
     ·exact absurd h (by decide)
     ·rename_i h3;rw [γ h3]
    ·exact absurd h (by decide)
 have e:=decF_take (k:=k) h0 (by omega);unfold B5;rw [e]
theorem begV_take {g:Sg}  (h:(D4 b g).2=true) (hk:(D4 b g).1≤k):D4 (b.take k) g=D4 b g:=by
 have h0:(B5 b).2.2.2=0:=by
  unfold D4 at h;simp only [Bool.and_eq_true,decide_eq_true_eq] at h;exact h.1.1
 have e:=hdrOf_take h0 hk;unfold D4;rw [e]
theorem actB_cut {g:Sg} (h:(I9 (some b) g).2.2=true):I9 (some (b.take (I9 (some b) g).1)) g=I9 (some b) g∧20≤(I9 (some b) g).1∧(I9 (some b) g).1≤b.length:=by
 unfold I9 at h ⊢;dsimp only at h ⊢;rcases hb:(D4 b g).2
 ·rw [hb] at h;simp at h
 ·rw [hb] at h;simp only [Bool.true_eq_false,if_false] at h ⊢;have hp:=hdr_pos hb;have hbd:=scanRun_bd (b:=b) (p:=(D4 b g).1) (first:=(B5 b).2.1) (most:=512) hp.2;have e1:=begV_take (k:=(Bt b (D4 b g).1 (B5 b).2.1 512).2) hb hbd.1;have h0:(B5 b).2.2.2=0:=by
   have hb2:=hb;unfold D4 at hb2;simp only [Bool.and_eq_true,decide_eq_true_eq] at hb2;exact hb2.1.1
  have e2:=hdrOf_take (k:=(Bt b (D4 b g).1 (B5 b).2.1 512).2) h0 (by exact hbd.1);rw [e1,e2,hb,scanRun_cut hp.2];simp only [Bool.true_eq_false,if_false];exact⟨trivial,by omega,hbd.2⟩
def Ec (fs:List Bl) (o:Ls):List Bl:=(Iq (stand 0 fs) o).files
theorem Oz (x:Af) (o:Ls):Iq x o={x with files:=Ec x.files o}:=by
 unfold Ec Iq stand;split
 ·rfl
 ·dsimp only;rcases Bf x.files o.name with _|f
  ·rfl
  ·dsimp only;split
   ·rfl
   ·split<;>rfl
structure Ox (P Q:List Bl→Prop) (d:Af) (r:Af×Int):Prop where
 room:r.1.room=d.room
 ok:A0 r.1
 out:(r.2=0∧Q r.1.files∧r.1.down=false∧(d.fuse=0→r.1.fuse=0))∨(r.2=3∧d.fuse≠0∧r.1.down=true∧P r.1.files)
theorem Oo {P Q:List Bl→Prop}  (hok:A0 d) (hd:d.down=false) (hq:Q d.files):Ox P Q d (Bk d []):=⟨rfl,hok,.inl ⟨rfl,hq,hd,fun h=>h⟩⟩
theorem E6 {P Q:List Bl→Prop}  {o:Ls} {ops:List Ls} (hok:A0 d) (hk:0≤o.k∧o.k≤5) (hn:o.n≤9223372036854775807) (hb:Ge d o=0)
  (h1:P (if o.k=1 then Ec d.files o else d.files))
  (hr: ∀ d':Af,d'.files=Ec d.files o→d'.room=d.room→d'.down=false→A0 d'→(d.fuse=0→d'.fuse=0)→Ox P Q d' (Bk d' ops)):Ox P Q d (Bk d (o::ops)):=by
 have hdn:=(bar_front hb).1;have hdo:=doD_ok hok (o:=o) (by omega) hn;by_cases hf:d.fuse=1
 ·have e:Bi d o=(if o.k=1 then Iq (Ar d) o else Ar d,[],0,3):=by rw [Is hk hb,κ hf,κ hf]
  rw [e] at hdo;rw [Ch (by rw [e];simp),e];have hst:(Ar d).down=true:=by unfold Ar;rw [κ hf]
  refine⟨?_,hdo,.inr ⟨rfl,by omega,?_,?_⟩⟩
  ·dsimp only;split
   ·rw [Oz];exact M7 d
   ·exact M7 d
  ·dsimp only;split
   ·rw [Oz];exact hst
   ·exact hst
  ·by_cases h:o.k=1
   ·rw [κ h] at h1;simp only [κ h];rw [Oz,Bo];exact h1
   ·rw [γ h] at h1;simp only [γ h];rw [Bo];exact h1
 ·have e:Bi d o=(Iq (Ar d) o,[],0,0):=by rw [Is hk hb,γ hf,γ hf]
  rw [e] at hdo;rw [Dx (by rw [e]),e];have hfu:d.fuse=0→(Iq (Ar d) o).fuse=0:=fun h=>by
   rw [Oz];show (Ar d).fuse=0;unfold Ar;rw [γ hf];show (if 1<d.fuse then d.fuse - 1 else d.fuse)=0;rw [γ (by omega)];exact h
  have hrm:(Iq (Ar d) o).room=d.room:=by rw [Oz];exact M7 d
  have:=hr (Iq (Ar d) o) (by rw [Oz,Bo]) hrm (by
   rw [Oz];show (Ar d).down=false;unfold Ar;rw [γ hf];exact hdn) hdo hfu
  refine⟨this.room.trans hrm,this.ok,?_⟩;rcases this.out with⟨a,b,c,e⟩|⟨a,b,c,e⟩
  ·exact .inl ⟨a,b,c,fun h=>e (hfu h)⟩
  ·exact .inr ⟨a,fun h=>b (hfu h),c,e⟩
theorem Ey (hok:A0 d) (hd:d.down=false)  (ha:Bf d.files n=some x):Av d n=0:=by
 have:=hok.names x (B8 ha).2;rw [(B8 ha).1] at this;unfold Av;rw [hd,this,ha];rfl
theorem openE_off (hd:d.down=false)  (hr:Ao n=true) (ha:Bf d.files n=none):Av d n=51:=by
 unfold Av;rw [hd,hr,ha];rfl
def takes:List (List UInt8)→List Bl→List Bl
 | [],fs=>fs
 |n::r,fs=>takes r (takeF n fs)
theorem takes_filter: ∀ (ns:List (List UInt8)) (fs:List Bl),takes ns fs=fs.filter fun f=> !(ns.contains f.name)
 | [],fs=>by
  rw [takes]
  exact(List.filter_eq_self.2 fun f _=>by simp).symm
 |n::r,fs=>by
  rw [takes,takes_filter r,takeF,List.filter_filter]
  refine List.filter_congr fun f _=> ?_
  rw [List.contains_cons]
  rcases (f.name==n)<;>simp
theorem takes_strays (s:List UInt8→Bool) (fs:List Bl):takes ((fs.map (·.name)).filter s) fs=fs.filter fun f=> !(s f.name):=by
 rw [takes_filter];refine List.filter_congr fun f hf=> ?_;congr 1;rw [Bool.eq_iff_iff,List.contains_iff_mem,List.mem_filter];exact⟨fun h=>h.2,fun h=>⟨List.mem_map_of_mem hf,h⟩⟩
theorem chg_remove (ha:Bf fs n=some x):Ec fs (Bb n)=takeF n fs:=by
 unfold Ec Iq;rw [γ (by simp [Bb])];show (match Bf fs n with|none=>stand 0 fs|some f=>_).files=_;rw [ha];simp [Bb,stand]
theorem went_removes {P Q I:List Bl→Prop} (hip: ∀ fs,I fs→P fs): ∀ (ns:List (List UInt8)) (d:Af) (ops:List Ls),A0 d→d.down=false→ns.Nodup→(∀ n∈ns,∃ x,Bf d.files n=some x)→I d.files→(∀ fs n,n∈ns→I fs→I (takeF n fs))→
  (∀ d':Af,d'.files=takes ns d.files→d'.room=d.room→d'.down=false→A0 d'→(d.fuse=0→d'.fuse=0)→I d'.files→Ox P Q d' (Bk d' ops))→Ox P Q d (Bk d (ns.map Bb++ops))
 | [],d,ops,hok,hd,_,_,hi,_,hr=>hr d rfl rfl hd hok (fun h=>h) hi
 |n::r,d,ops,hok,hd,hnd,hon,hi,hst,hr=>by
  obtain⟨hn1,hn2⟩:=List.nodup_cons.1 hnd
  obtain⟨x,hx⟩:=hon n (by simp)
  rw [List.map_cons,List.cons_append]
  refine E6 hok (by simp [Bb]) (by simp [Bb]) (by rw [Mq];exact Ey hok hd hx) (hip _ hi) fun d' e1 e2 e3 e4 e5=> ?_
  rw [chg_remove hx] at e1
  have h1:I d'.files:=by rw [e1];exact hst _ _ (by simp) hi
  have:=went_removes (Q:=Q) hip r d' ops e4 e3 hn2 (fun k hk=>by
   obtain⟨y,hy⟩:=hon k (by simp [hk])
   exact⟨y,by rw [e1,at_take (by rintro rfl;exact hn1 hk)];exact hy⟩) h1 (fun fs k hk h=>hst fs k (by simp [hk]) h)
   (fun d2 g1 g2 g3 g4 g5 g6=>hr d2 (by rw [g1,e1];rfl) (g2.trans e2) g3 g4 (fun h=>g5 (e5 h)) g6)
  exact this
theorem Ee {f:Bl}: ∀ {fs:List Bl},(∀ x∈fs,x.name≠f.name)→Bf (Dp f fs) f.name=some f
 | [],_=>by simp [Dp,Bf]
 |y::r,h=>by
  have hy:=h y (by simp)
  have ih:=Ee (f:=f) (fs:=r) fun x hx=>h x (by simp [hx])
  unfold Bf at ih ⊢
  unfold Dp
  split
  ·rw [List.find?_cons];simp
  ·rw [List.find?_cons,show (y.name==f.name)=false by simpa using hy]
   exact ih
theorem Gu {f:Bl} {n:List UInt8} (hn:f.name≠n): ∀ {fs:List Bl},Bf (Dp f fs) n=Bf fs n
 | []=>by simp [Dp,Bf,hn]
 |y::r=>by
  have ih:=Gu hn (fs:=r)
  unfold Bf at ih ⊢
  unfold Dp
  split
  ·rw [List.find?_cons,show (f.name==n)=false by simpa using hn]
  ·rw [List.find?_cons,List.find?_cons,ih]
theorem take_put {f:Bl} {fs:List Bl} (h: ∀ x∈fs,x.name≠f.name):takeF f.name (Dp f fs)=fs:=by
 induction fs with
 |nil=>simp [Dp,takeF]
 |cons y r ih=>
  have hy:=h y (by simp);have ih:=ih fun x hx=>h x (by simp [hx]);have hr:takeF f.name (y::r)=y::r:=by
   unfold takeF;rw [List.filter_eq_self];intro x hx;simpa using h x hx
  unfold Dp;split
  ·unfold takeF at hr ⊢;rw [List.filter_cons];simp only [beq_self_eq_true,Bool.not_true,Bool.false_eq_true,if_false];exact hr
  ·unfold takeF at ih ⊢;rw [List.filter_cons,show (y.name==f.name)=false by simpa using hy];simp [ih]
theorem none_of (h: ∀ x∈fs,x.name≠n):Bf fs n=none:=by
 unfold Bf;rw [List.find?_eq_none];intro x hx;simpa using h x hx
theorem ne_of_none (h:Bf fs n=none): ∀ x∈fs,x.name≠n:=fun x hx=>by
 have:=List.find?_eq_none.1 h x hx
 simpa using this
theorem aliens_put {f:Bl} (hf:alien f.name=false): ∀ fs:List Bl,Hn (Dp f fs)=Hn fs
 | []=>by simp [Dp,Hn,hf]
 |y::r=>by
  have ih:=aliens_put hf r
  unfold Hn at ih ⊢
  unfold Dp
  split
  ·rw [List.filter_cons,hf];simp
  ·rw [List.filter_cons,List.filter_cons,ih]
theorem chg_create:Ec fs (Ak n)=Dp ⟨n,[],0⟩ fs:=by
 unfold Ec Iq;rw [κ (by simp [Ak])];rfl
theorem chg_put {f:Bl} {o:Ls} (h: ∀ x∈fs,x.name≠f.name) (hn:o.name=f.name) (hk:o.k=1∨o.k=2∨o.k=5):Ec (Dp f fs) o=Dp (Ll o f) fs:=by
 unfold Ec Iq;rw [γ (by omega)];show (match Bf (Dp f fs) o.name with|none=>stand 0 (Dp f fs)|some f=>_).files=_;rw [hn,Ee h];dsimp only;rw [γ (by omega),γ (by omega)];show Dp (Ll o f) (takeF f.name (Dp f fs))=_;rw [take_put h]
theorem chg_rename {f:Bl}  (h: ∀ x∈fs,x.name≠f.name) (ht: ∀ x∈fs,x.name≠t):Ec (Dp f fs) (An f.name t)=Dp {f with name:=t} fs:=by
 unfold Ec Iq;rw [γ (by simp [An])];show (match Bf (Dp f fs) f.name with|none=>stand 0 (Dp f fs)|some f=>_).files=_;rw [Ee h];dsimp only;rw [γ (by simp [An]),κ (by simp [An])];show Dp (Ll (An f.name t) f) (takeF t (takeF f.name (Dp f fs)))=_;rw [take_put h,On (none_of ht)];rfl
def thereB (fs:List Bl):Bool:=(Dh fs Aw).isSome
def manF (fs:List Bl):Da:=match Dh fs Aw with | none=>zeroM | some b=>(B2 b).1
def SafeIn (fs:List Bl):Prop:= ∀ f∈fs,A5 (thereB fs) (manF fs) f.name=false→f.safe=(f.data.length:Int)
theorem decMan_ok (h:(B2 b).2=0):Cy (B2 b).1=true:=by
 revert h;unfold B2
 repeat' split
 ·simp
 ·simp
 ·rename_i h;intro _;simpa using h
 ·simp
theorem ns_man (t:Bool) (m:Da):A5 t m Aw=false:=by
 unfold A5;rw [show Bg Aw=(1,0) by decide];rfl
theorem Pi {m:Da} (hf:I2 m) {g:Sg} (hg:g∈m.segs):A5 true m (Ad g.num)=false:=by
 have h1:=hf.seg g hg;have h2:=hf.next;unfold A5;rw [parse_seg g.num (by omega)];simp only [if_true];have:Jg m g.num=true:=by unfold Jg;rw [List.any_eq_true];exact⟨g,hg,by simp⟩
 rw [this];rfl
theorem ns_book {m:Da} (hf:I2 m) (h:0<m.snap):A5 true m (Cs m.snap)=false:=by
 have h1:=hf.snap;have h2:=hf.next;unfold A5;rw [parse_book m.snap (by omega)];simp
theorem last_mem {m:Da} (hf:I2 m):Ah m∈m.segs:=(last_segs hf).2
theorem find_man {room:Int}  (h:Dh fs Aw=some b) (h0:(B2 b).2=0):findB room fs=Pe fs (B2 b).1:=by
 unfold findB;rw [h];dsimp only;rw [γ (fun k=>k h0)]
theorem man_there (h:Dh fs Aw=some b):thereB fs=true∧manF fs=(B2 b).1:=by
 unfold thereB manF;rw [h];exact⟨rfl,rfl⟩
theorem keptN_bd {f:Bl} (h:0≤f.safe∧f.safe≤(f.data.length:Int)) (k:Int):f.safe≤Jz f k∧Jz f k≤(f.data.length:Int):=by
 unfold Jz;split
 ·split<;>omega
 ·omega
theorem rest_names: ∀ (fs:List Bl) (ks:List Int),(restF fs ks).map (·.name)=fs.map (·.name)
 | [],_=>rfl
 |f::r,ks=>by rw [restF,List.map_cons,List.map_cons,rest_names r]
theorem rest_safe: ∀ (fs:List Bl) (ks:List Int),(∀ f∈fs,0≤f.safe∧f.safe≤(f.data.length:Int))→ ∀ f∈restF fs ks,f.safe=(f.data.length:Int)∧0≤f.safe
 | [],_,_=>fun f hf=>by cases hf
 |f::r,ks,h=>fun x hx=>by
  rw [restF] at hx
  rcases Δ.1 hx with rfl|hx
  ·have:=keptN_bd (h f (by simp)) (ks.headD 0)
   have h0:=(h f (by simp)).1
   simp only [ω]
   omega
  ·exact rest_safe r ks.tail (fun y hy=>h y (by simp [hy])) x hx
theorem rest_same {f:Bl} (h:f.safe=(f.data.length:Int)) (k:Int):(⟨f.name,f.data.take (Jz f k).toNat,Jz f k⟩:Bl)=f:=by
 have:=keptN_bd (f:=f) (by omega) k;have e:Jz f k=(f.data.length:Int):=by omega
 rw [e];obtain⟨n,b,s⟩:=f;simp only at h;subst h;simp
theorem rest_used: ∀ (fs:List Bl) (ks:List Int),usedF (restF fs ks)≤usedF fs
 | [],_=>μ _
 |f::r,ks=>by
  have ih:=rest_used r ks.tail
  rw [restF]
  simp only [usedF,List.map_cons,List.sum_cons,ω] at ih ⊢
  omega
theorem rest_ok (h:A0 d) (ks:List Int):A0 {d with files:=restF d.files ks,down:=false,fuse:=0}:=by
 have hn:=rest_names d.files ks;have hr:Fs (restF d.files ks):=by
  have h1:=List.pairwise_map (f:=Bl.name) (R:=fun a b=>bytesBefore a b=true) (l:=restF d.files ks);have h2:=List.pairwise_map (f:=Bl.name) (R:=fun a b=>bytesBefore a b=true) (l:=d.files);exact h1.1 (by rw [hn];exact h2.2 h.rise)
 have hl:(restF d.files ks).length=d.files.length:=by rw [←List.length_map (f:=Bl.name),hn,List.length_map]
 refine⟨hr,fun f hf=> ?_,fun f hf=> ?_,by show (restF d.files ks).length≤700;rw [hl];exact h.count,h.room,?_,⟨Int.le_refl 0,by simp⟩,h.steps,h.reads⟩
 ·have:f.name∈(restF d.files ks).map (·.name):=List.mem_map_of_mem hf;rw [hn] at this;obtain⟨y,hy,e⟩:=List.mem_map.1 this;rw [←e];exact h.names y hy
 ·have:=rest_safe d.files ks h.safe f hf;omega
 ·have:=rest_used d.files ks;have:=h.used;show (usedF (restF d.files ks):Int)≤d.room;omega
theorem rest_at: ∀ (fs:List Bl) (ks:List Int) (n:List UInt8),(∀ x,Bf fs n=some x→x.safe=(x.data.length:Int))→Bf (restF fs ks) n=Bf fs n
 | [],_,_,_=>rfl
 |f::r,ks,n,h=>by
  unfold Bf at h ⊢
  rw [restF,List.find?_cons,List.find?_cons]
  by_cases hn:f.name=n
  ·have e:(f.name==n)=true:=by simpa using hn
   rw [e]
   dsimp only
   have:=h f (by rw [List.find?_cons,e])
   rw [rest_same this]
  ·have e:(f.name==n)=false:=by simpa using hn
   rw [e]
   dsimp only
   exact rest_at r ks.tail n fun x hx=>h x (by rw [List.find?_cons,e];exact hx)
end Go.Proofs.YtgkdenejkcngnaaGreatDoor
