import Derived.Deep.CutRange
import Derived.Test.YtlobohpbgghleaaGreatDoorPr6
namespace Go.Proofs.YtlobohpbgghleaaGreatDoor
open Go.RowKit Go.Maps
set_option maxRecDepth 100000 in
theorem numC_any (w:World) (c r m:Nat) (bad k:Int) (xs:List (Fld×Value)) (hc:w.heap[c]? =some (.cells #[.pointer (some ⟨r,0,none⟩)] 240 (0,0))) (h:RdAt w r m bad xs) (hk:0≤k∧k≤1000):
  Calls Tryz.prog 154 #[.int .i64 k,.pointer (some ⟨c,0,none⟩)] w fun e w'=>e= .returned (.int .i64 (smallV (takeP xs bad k false).1.1.num))∧RdAt w' r m (takeP xs bad k false).2.2 (takeP xs bad k false).2.1∧Turned (fun j=>j=r∨j=m) w w':=by
 have HN:=Lib.hid (rdNum_any w r m bad k xs h hk)
 have c0:w.cell? ⟨c,0,none⟩=some (.pointer (some ⟨r,0,none⟩)):=by simp [World.cell?,hc]
 generalize takeP xs bad k false=y at*
 clear h hk hc
 go_enter Tryz.func154,Tryz.ntmps154
 go_wp2_with fail
 refine HN.out.mono ?_
 rintro e w1 ⟨rfl,h1,h2⟩
 go_wp2_with fail
 refine(small_any _ _).mono ?_
 rintro e w2 ⟨rfl,rfl⟩
 go_wp2
 go_ret
 exact⟨rfl,h1,h2⟩
def rdS (xs:List (Fld×Value)):Nat→List (Fld×Value)×Int
 | 0=>(xs,0)
 | i+1=>(takeP (rdS xs i).1 (rdS xs i).2 ((i:Int)+1) (decide (i=10))).2
def rdF (xs:List (Fld×Value)) (i:Nat):Fld×Value:=(takeP (rdS xs i).1 (rdS xs i).2 ((i:Int)+1) (decide (i=10))).1
def rdV (xs:List (Fld×Value)) (i:Nat):Value:=if i=10 then (rdF xs i).2 else .int .i64 (smallV (rdF xs i).1.num)
theorem rdS_sub (xs:List (Fld×Value)): ∀ i,∀ x∈(rdS xs i).1,x∈xs
 | 0=>fun _ h=>h
 | i+1=>fun x hx=>by
  rw [rdS] at hx
  refine rdS_sub xs i x ?_
  unfold takeP at hx
  split at hx
  ·exact hx
  ·split at hx
   ·exact(List.mem_filter.1 hx).1
   ·exact(List.mem_filter.1 hx).1
def nmX (xs:List (Fld×Value)) (i:Nat):Int:=smallV (rdF xs i).1.num
def whoX (xs:List (Fld×Value)):List UInt8:=(rdF xs 10).1.data
@[reducible] def stX (f : Nat → Int) (ls : List Ln) (who : List UInt8) : St := ⟨f 0, f 1, f 2, f 3, f 4, ls, f 5, f 6, f 7, f 8, f 9, who⟩
theorem stCs_size (s:St) (lv:Value):(stCs s lv).size=12:=rfl
theorem stCs_X (f:Nat→Int) (who:List UInt8):stCs (stX f [] who) (.slice none 0 0)= #[.int .i64 (f 0),.int .i64 (f 1),.int .i64 (f 2),.int .i64 (f 3),.int .i64 (f 4),.slice none 0 0,.int .i64 (f 5),.int .i64 (f 6),.int .i64 (f 7),.int .i64 (f 8),.int .i64 (f 9),.string ⟨who.toArray⟩]:=rfl
theorem stOf_X (f:Nat→Int) (ls:List Ln) (who:List UInt8):stOf ((List.range 10).map f) ls who=stX f ls who:=rfl
def fstQ (s:List (Fld×Value)×Int):List Fld×Int:=(s.1.map (·.1),s.2)
theorem linesQ_start (s:List (Fld×Value)×Int):linesQ 16 12 (fstQ s) true []=linesQ (16 - 0) (12+((0:Nat):Int)) (fstQ (s.1,s.2)) true []:=rfl
theorem linesQ_out (k:Int) (q:List Fld×Int) (ok:Bool) (ls:List Ln):linesQ (16 - 16) k q ok ls=(ls,ok,q):=rfl
theorem takeQ_S (xs:List (Fld×Value)) (i:Nat) (k:Int) (hk:k=(i:Int)+1):takeQ (fstQ (rdS xs i)) k (decide (i=10))=((rdF xs i).1,fstQ (rdS xs (i+1))):=by
 subst hk
 exact takeP_Q _ _ _ _
theorem numsQ_S (xs:List (Fld×Value)): ∀ (n i:Nat) (k:Int) (vs:List Int),i+n=10→k=(i:Int)+1→
  numsQ n k (fstQ (rdS xs i)) vs=(vs++(List.range' i n).map (fun i=>smallV (rdF xs i).1.num),fstQ (rdS xs 10))
 | 0,i,k,vs,h,hk=>by obtain rfl:i=10:=h;simp [numsQ]
 | n+1,i,k,vs,h,hk=>by
  have ht:=takeQ_S xs i k hk
  rw [show decide (i=10)=false by simp;omega] at ht
  rw [numsQ]
  unfold numQ
  rw [ht]
  rw [numsQ_S xs n (i+1) (k+1) _ (by omega) (by omega)]
  rw [List.range'_succ]
  simp
theorem decSt_S {b:List UInt8} {xs:List (Fld×Value)} (h0:(tlvDec b).1=0) (hx:xs.map (·.1)=(tlvDec b).2) {ls:List Ln} {ok:Bool} {q:List Fld×Int} (hl:linesQ 16 12 (fstQ (rdS xs 11)) true []=(ls,ok,q)):
  decSt b=if errQ q≠0 then (stNone,errQ q)
   else if ok&&validB (stX (nmX xs) ls (whoX xs)) then (stX (nmX xs) ls (whoX xs),0) else (stNone,40):=by
 have h1:=numsQ_S xs 10 0 1 [] rfl rfl
 have e1:fstQ (rdS xs 0)=((tlvDec b).2,0):=by rw [←hx];rfl
 rw [e1,List.nil_append,←List.range_eq_range'] at h1
 have h2:=takeQ_S xs 10 11 rfl
 rw [show decide (10=10)=true from rfl] at h2
 rw [←stOf_X]
 unfold decSt
 rw [if_neg (fun h=>h h0)]
 simp only [h1,h2,hl]
 rfl
theorem fldV_data (b:List UInt8) (p last:Nat):(fldV b p last).2.1.data.length≤200:=by
 unfold fldV
 dsimp only
 repeat' split
 all_goals first
  | exact Nat.zero_le _
  | (simp only [List.length_take];omega)
theorem tlvGo_data (b:List UInt8): ∀ (n p last:Nat) (fs:List Fld),(∀ f∈fs,f.data.length≤200)→ ∀ f∈(tlvGo b n p last fs).2,f.data.length≤200
 | 0,_,_,_=>fun h=>h
 | n+1,p,last,fs=>fun h=>by
  rw [tlvGo]
  split
  ·split
   ·refine tlvGo_data b n _ _ _ fun f hf=> ?_
    rcases List.mem_append.1 hf with hf | hf
    ·exact h f hf
    ·simp at hf;subst hf;exact fldV_data b p last
   ·intro f hf;cases hf
  ·exact h
theorem tlvDec_data {b:List UInt8}: ∀ f∈(tlvDec b).2,f.data.length≤200:=by
 unfold tlvDec
 split
 ·intro f hf;cases hf
 ·exact tlvGo_data b _ _ _ _ fun f hf=>by cases hf
theorem takeP_mem (xs:List (Fld×Value)) (bad k:Int) (t:Bool):(takeP xs bad k t).1=(fld0,.slice none 0 0)∨(takeP xs bad k t).1∈xs:=by
 unfold takeP
 rcases h:xs.find? (tagIs k) with _ | x
 ·exact .inl rfl
 ·dsimp only
  split
  ·exact .inr (List.mem_of_find?_eq_some h)
  ·exact .inl rfl
theorem rdF_data {xs:List (Fld×Value)} (h: ∀ x∈xs,x.1.data.length≤200) (i:Nat):(rdF xs i).1.data.length≤200:=by
 unfold rdF
 rcases takeP_mem (rdS xs i).1 (rdS xs i).2 ((i:Int)+1) (decide (i=10)) with e | e
 ·rw [e];exact Nat.zero_le _
 ·exact h _ (rdS_sub xs i _ e)
theorem rdF_row {w:World} {rb mb:Nat} {xs:List (Fld×Value)} (h:RdAt w rb mb 0 xs) (i:Nat):BRowIn (fun j=>j≠rb∧j≠mb) w (rdF xs i).2 (rdF xs i).1.data:=by
 unfold rdF
 rcases takeP_mem (rdS xs i).1 (rdS xs i).2 ((i:Int)+1) (decide (i=10)) with e | e
 ·rw [e];exact browIn_nil _ _
 ·exact h.rows _ (rdS_sub xs i _ e)
theorem RdAt.turnedG {w w':World} {r m:Nat} {bad:Int} {xs:List (Fld×Value)} {A S:Nat→Prop} {w3:World} (h:RdAt w r m bad xs) (ht:Turned S w w') (hr:r<w3.heap.size) (hm:m<w3.heap.size) (hx: ∀ x∈xs,BRowIn (fun k=>A k∧k<w3.heap.size) w3 x.2 x.1.data) (hg: ∀ k,S k→w3.heap.size≤k):RdAt w' r m bad xs:=by
 obtain⟨D,⟨es,clock,hb,hf⟩,h2⟩:=h.map
 have hb':=(ht.block _ (Array.getElem?_eq_some_iff.1 hb).1 (fun e=>by have:=hg _ e;omega)).trans hb
 refine⟨(ht.block _ h.lt.1 (fun e=>by have:=hg _ e;omega)).trans h.blk,⟨D,⟨es,clock,hb',hf⟩,h2⟩,h.tags,fun x hxm=> ?_⟩
 obtain⟨oa,cap,e1,e2,e3⟩:=h.rows x hxm
 obtain⟨oa',cap',e1',_,e3'⟩:=hx x hxm
 rw [e1] at e1'
 simp only [Value.slice.injEq,true_and] at e1'
 obtain⟨rfl,rfl⟩:=e1'
 refine⟨oa,cap,e1,e2,fun hn=> ?_⟩
 obtain⟨b,off,rfl,ha,hc⟩:=e3 hn
 obtain⟨b',off',e,ha',_⟩:=e3' hn
 simp only [Option.some.injEq,Addr.mk.injEq,and_true] at e
 obtain⟨rfl,rfl⟩:=e
 exact⟨b,off,rfl,ha,fun i u hu=>ht.cell (hc i u hu) fun hs=>by have:=ha'.2;have:=hg _ hs;simp only at this;omega⟩
theorem takeP_sub {xs:List (Fld×Value)} {bad k:Int} {t:Bool}: ∀ x∈(takeP xs bad k t).2.1,x∈xs:=by
 intro x hx
 unfold takeP at hx
 split at hx
 ·exact hx
 ·split at hx
  ·exact(List.mem_filter.1 hx).1
  ·exact(List.mem_filter.1 hx).1
theorem rdV_num (xs:List (Fld×Value)) (i:Nat) (h:i≠10):rdV xs i= .int .i64 (nmX xs i):=by rw [rdV,if_neg h];rfl
theorem rdV_text (xs:List (Fld×Value)):rdV xs 10=(rdF xs 10).2:=by rw [rdV,if_pos rfl]
theorem conv_none {P:Program} (w:World) (src e dst:TypeId) (hs:P.underlying src=some (.slice e)) (he:P.underlying e=some (.int .u8)) (hd:P.underlying dst=some .string) (p:Option Addr) (c:Nat):(convert src dst (.slice p 0 c)).run P w= .ok (.string ByteArray.empty) w:=by
 rw [run_convert_bytes_string w src dst e _ 0 c hs he hd]
 cases p<;>simp [Conv.bytesToString,loadCells]
 all_goals rfl
theorem conv_brow {w:World} {v:Value} {l:List UInt8} (h:BRow w v l):(convert 47 9 v).run Tryz.prog w= .ok (.string ⟨l.toArray⟩) w:=by
 obtain⟨oa,cap,rfl,_,hc⟩:=h
 by_cases hl:l=[]
 ·subst hl
  exact conv_none w 47 5 9 Tryz.underlying47 Tryz.underlying5 Tryz.underlying9 oa cap
 ·obtain⟨b,off,rfl,hcell⟩:=hc hl
  have:=run_convert_bytes_arg (P:=Tryz.prog) w 47 5 Tryz.underlying47 Tryz.underlying5 b off l.length cap (l.map fun x=>(x.toNat:Int)) (by simp) (fun i hi=>by
   have h1:=hcell i l[i] (List.getElem?_eq_getElem hi)
   rw [h1]
   simp [hi]) 9 Tryz.underlying9
  have e:strOfNums (l.map fun x=>(x.toNat:Int))=⟨l.toArray⟩:=by
   unfold strOfNums
   rw [List.map_map]
   have:((fun n:Int=>UInt8.ofNat n.toNat)∘fun x:UInt8=>(x.toNat:Int))=id:=by funext x;simp
   rw [this,List.map_id]
  rw [this,e]
theorem results_st2 {fn:Func} {p q:Tmp} (h:fn.results= #[.cell p 164,.tmp q]) (tmps:Array Value) (w:World) (g:Nat) (s:St) (lv x:Value)
  (hp:tmps.getD p undef= .pointer (some ⟨g,0,none⟩)) (hq:tmps.getD q undef=x) (hE:StBlk w g s lv):(results fn tmps).run Tryz.prog w= .ok (.tuple #[stV s lv,x]) w:=by
 have hl:=run_loadVar_row (P:=Tryz.prog) w g 164 164 (stCs s lv) (0,0) _ hE Tryz.underlying164 rfl stInfo
 have hp':tmps[p]?.getD undef= .pointer (some ⟨g,0,none⟩):=by simpa using hp
 have hq':tmps[q]?.getD undef=x:=by simpa using hq
 simp [results,h,hp',hq',asAddr,hl]
 rfl
theorem wpList_load_stAt {ops:Array Oper} {rest:List Oper} {o:Oper} {a:Act} {w:World} {Q:Exit→Act→World→Prop} (hgd:o.guard=none) (x:Operand) (ho:o.op= .load 164 x)
  (b off:Nat) (s:St) (lv:Value) (hx:a.eval x= .pointer (some ⟨b,off,none⟩)) (hE:w.rangeAt b off (stCs s lv).toList)
  (h:wpList Tryz.prog ops Q rest (a.put o.dst (stV s lv)) w):wpList Tryz.prog ops Q (o::rest) a w:=
 wpList_load_mid hgd 164 x ho b off hx (stCs s lv).toList _ hE Tryz.underlying164 rfl stInfo h
theorem wpList_store_stW {ops:Array Oper} {rest:List Oper} {o:Oper} {a:Act} {w:World} {Q:Exit→Act→World→Prop} (hgd:o.guard=none) (x y:Operand) (ho:o.op= .store 164 x y)
  (g:Nat) (s s':St) (lv lv':Value) (hx:a.eval x= .pointer (some ⟨g,0,none⟩)) (hy:a.eval y=stV s' lv') (hE:StBlk w g s lv) (h1:lv'.oneCell'=true)
  (h: ∀ W,Hid (W=w.setRow g (stCs s' lv'))→wpList Tryz.prog ops Q rest (a.put o.dst undef) W):wpList Tryz.prog ops Q (o::rest) a w:=
 wpList_store_st hgd x y ho g s s' lv lv' hx hy hE h1 (h _ (Lib.hid rfl))
def StI (w3:World) (rb mb:Nat) (xs:List (Fld×Value)) (i:Nat) (o:Option Nat) (w':World):Prop:=
 RdAt w' rb mb (rdS xs i).2 (rdS xs i).1∧Turned (fun j=>j=rb∨j=mb) w3 w'∧(∀ g,o=some g→w3.heap.size≤g∧StBlk w' g stNone (.slice none 0 0))∧(i=11→BRowIn (fun j=>j≠rb∧j≠mb) w' (rdF xs 10).2 (whoX xs))
theorem StI.next {w3 w' w2:World} {rb mb i:Nat} {xs:List (Fld×Value)} {o:Option Nat} (h:StI w3 rb mb xs i o w') (hr:rb<w3.heap.size) (hm:mb<w3.heap.size) (h1:RdAt w2 rb mb (rdS xs (i+1)).2 (rdS xs (i+1)).1) (ht:Turned (fun j=>j=rb∨j=mb) w' w2)
  (hb:i+1=11→BRowIn (fun j=>j≠rb∧j≠mb) w2 (rdF xs 10).2 (whoX xs)):StI w3 rb mb xs (i+1) o w2:=
 ⟨h1,h.2.1.trans ht fun k hk=> .inl hk,fun g hg=>⟨(h.2.2.1 g hg).1,(ht.block g (h.2.2.1 g hg).2.lt (by have:=(h.2.2.1 g hg).1;omega)).trans (h.2.2.1 g hg).2⟩,hb⟩
theorem StI.alloc {w3 w':World} {rb mb i:Nat} {xs:List (Fld×Value)} (h:StI w3 rb mb xs i none w'):StI w3 rb mb xs i (some w'.heap.size) (w'.alloc (.cells (stCs stNone (.slice none 0 0)) 164)):=
 have hb:=below_alloc w' (.cells (stCs stNone (.slice none 0 0)) 164)
 ⟨h.1.below hb,h.2.1.trans (Turned.below hb) fun _ h=> .inl h,fun g hg=>by cases hg;exact⟨h.2.1.size,stBlk_alloc w' stNone (.slice none 0 0)⟩,fun e=>(h.2.2.2 e).below hb⟩
theorem rdS_text (xs:List (Fld×Value)):rdS xs 11=(takeP (rdS xs 10).1 (rdS xs 10).2 11 true).2:=by
 rw [show rdS xs 11=(takeP (rdS xs 10).1 (rdS xs 10).2 (((10:Nat):Int)+1) (decide (10=10))).2 by rw [rdS],show (((10:Nat):Int)+1)=11 from rfl,show decide (10=10)=true from rfl]
theorem rdF_text (xs:List (Fld×Value)):rdF xs 10=(takeP (rdS xs 10).1 (rdS xs 10).2 11 true).1:=by
 rw [show rdF xs 10=(takeP (rdS xs 10).1 (rdS xs 10).2 (((10:Nat):Int)+1) (decide (10=10))).1 by rw [rdF],show (((10:Nat):Int)+1)=11 from rfl,show decide (10=10)=true from rfl]
theorem numC_S {w3 w':World} {c rb mb i:Nat} {xs:List (Fld×Value)} {o:Option Nat} (hc:w3.heap[c]? =some (.cells #[.pointer (some ⟨rb,0,none⟩)] 240 (0,0))) (hcr:c≠rb∧c≠mb) (hr:rb<w3.heap.size) (hm:mb<w3.heap.size) (hi:i<10) (hI:StI w3 rb mb xs i o w') (k:Int) (hk:k=(i:Int)+1):
  Calls Tryz.prog 154 #[.int .i64 k,.pointer (some ⟨c,0,none⟩)] w' fun e w2=>e= .returned (rdV xs i)∧StI w3 rb mb xs (i+1) o w2:=by
 have hd:decide (i=10)=false:=by simp;omega
 have e1:rdS xs (i+1)=(takeP (rdS xs i).1 (rdS xs i).2 k false).2:=by rw [rdS,hd,hk]
 have e2:rdF xs i=(takeP (rdS xs i).1 (rdS xs i).2 k false).1:=by rw [rdF,hd,hk]
 have hT:=numC_any w' c rb mb (rdS xs i).2 k (rdS xs i).1 ((hI.2.1.block c (Array.getElem?_eq_some_iff.1 hc).1 (by rintro(h | h);exact hcr.1 h;exact hcr.2 h)).trans hc) hI.1 (by omega)
 rw [←e1,←e2] at hT
 refine hT.mono ?_
 rintro e w2 ⟨rfl,h1,h2⟩
 exact⟨by rw [rdV,if_neg (by omega)],hI.next hr hm h1 h2 (fun e=>by omega)⟩
theorem textC_S {w3 w':World} {rb mb:Nat} {xs:List (Fld×Value)} {o:Option Nat} (hr:rb<w3.heap.size) (hm:mb<w3.heap.size) (hI:StI w3 rb mb xs 10 o w'):
  Calls Tryz.prog 157 #[.pointer (some ⟨rb,0,none⟩),.int .i64 11] w' fun e w2=>e= .returned (rdV xs 10)∧StI w3 rb mb xs (10+1) o w2:=by
 have hT:=rdText_any w' rb mb (rdS xs 10).2 11 (rdS xs 10).1 hI.1 (by omega)
 rw [←rdS_text,←rdF_text] at hT
 refine hT.mono ?_
 rintro e w2 ⟨rfl,h0,h1,h2⟩
 exact⟨by rw [rdV,if_pos rfl],hI.next hr hm h1 h2 (fun _=>h0)⟩
theorem StI.start {w3 w':World} {rb mb:Nat} {xs:List (Fld×Value)} (h:RdAt w3 rb mb 0 xs) (hb:Below w3.heap.size w3 w'):StI w3 rb mb xs 0 none w':=
 ⟨h.below hb,Turned.below hb,(fun _ hg=>by cases hg),(fun e=>by cases e)⟩
def StDP (w:World) (r:St×Int) (e:Ending) (w':World):Prop:= ∃ lv,e= .returned (.tuple #[stV r.1 lv,.int .i64 r.2])∧OwnLn w' w.heap.size lv r.1.lines∧Below w.heap.size w w'
set_option maxRecDepth 100000 in
set_option maxHeartbeats 4000000 in
theorem canonDec_any (b:List UInt8) (v:Value) (w:World) (hv:BRow w v b) (hl:b.length≤1048576):
  Calls Tryz.prog 115 #[v] w (StDP w (decSt b)):=by
 have HB0:=Lib.hid (below_alloc w (.cells (stCs stNone (.slice none 0 0)) 164))
 have HS0:=Lib.hid (stBlk_alloc w stNone (.slice none 0 0))
 have HNR:=Lib.hid (newReader_any b v _ (hv.below HB0.out) hl)
 simp only [stCs,stNone] at HB0 HS0 HNR
 have HDS:=Lib.hid (fun(xs:List (Fld×Value)) (h0:(tlvDec b).1=0) (hx:xs.map (·.1)=(tlvDec b).2) (ls:List Ln) (ok:Bool) (q:List Fld×Int) (hl:linesQ 16 12 (fstQ (rdS xs 11)) true []=(ls,ok,q))=>decSt_S h0 hx hl)
 have HE:=Lib.hid (show ¬ (tlvDec b).1=0→decSt b=(stNone,(tlvDec b).1) from fun h=>by unfold decSt;rw [if_pos h])
 have HDAT:=Lib.hid (@tlvDec_data b)
 obtain⟨r,hr⟩: ∃ r,r=tlvDec b:=⟨_,rfl⟩
 rw [←hr] at HNR HDS HE HDAT
 clear hv hr
 obtain⟨e0,fs⟩:=r
 unfold NewRdPost at HNR
 dsimp only at HNR HDS HE HDAT
 go_enter Tryz.func115,Tryz.ntmps115
 go_wp2_with fail
 refine HNR.out.mono ?_
 rintro e w1 ⟨h1,h2,hb1⟩
 have HB1:=Lib.hid (Below.next HB0.out hb1)
 have HS1:=Lib.hid (HS0.out.below hb1)
 clear hb1 HNR HB0 HS0
 rcases he:(e0 != 0) with _ | _
 case true=>
  have he0: ¬ e0=0:=by simpa using he
  have HE2:=Lib.hid (HE.out he0)
  obtain rfl:=h1 he0
  clear h1 h2 he0 HDS HE
  have HB2:=Lib.hid (Below.next HB1.out (below_alloc w1 (.cells #[.pointer none] 240)))
  have HS2:=Lib.hid (HS1.out.below (below_alloc w1 (.cells #[.pointer none] 240)))
  go_wp2_with (with_reducible refine wpList_store_stW rfl (.tmp 2) (.tmp 21) rfl w.heap.size ⟨0,0,0,0,0,[],0,0,0,0,0,[]⟩ ⟨0,0,0,0,0,[],0,0,0,0,0,[]⟩ (.slice none 0 0) (.slice none 0 0) rfl rfl HS2.out rfl ?_)
  intro w3 hw3
  have HS3:=Lib.hid (show StBlk w3 w.heap.size stNone (.slice none 0 0) by rw [hw3.out];exact HS2.out.row)
  have HB3:=Lib.hid (show Below w.heap.size w w3 by rw [hw3.out];exact below_row HB2.out (Nat.le_refl _) _)
  clear hw3
  go_wp2
  refine bodyPost_ret (v:= .tuple #[stV stNone (.slice none 0 0),.int .i64 e0]) (results_st2 rfl _ _ w.heap.size stNone _ _ rfl rfl HS3.out) rfl ?_
  rw [HE2.out]
  exact⟨_,rfl,⟨rfl,.inl ⟨rfl,rfl⟩⟩,HB3.out⟩
 have he0:e0=0:=by simpa using he
 obtain⟨rb,mb,xs,rfl,hxs,hrd,hrb,hmb⟩:=h2 he0
 have HDS2:=Lib.hid (fun ls ok q h=>HDS.out xs he0 hxs ls ok q h)
 have HXD:=Lib.hid (fun x (hx:x∈xs)=>HDAT.out x.1 (by rw [←hxs];exact List.mem_map.2 ⟨x,hx,rfl⟩))
 have HRD:=Lib.hid hrd
 clear h1 h2 HDS HE HDAT he0 hxs hrd
 have hsz0:(w.alloc (.cells #[.int .i64 0,.int .i64 0,.int .i64 0,.int .i64 0,.int .i64 0,.slice none 0 0,.int .i64 0,.int .i64 0,.int .i64 0,.int .i64 0,.int .i64 0,.string ⟨#[]⟩] 164)).heap.size=w.heap.size+1:=World.size_alloc _ _
 rw [hsz0] at hrb hmb
 clear hsz0
 have HRL:=Lib.hid HRD.out.lt
 have hrl:=HRL.out.1
 have hml:=HRL.out.2
 have hba:=below_alloc w1 (.cells #[.pointer (some ⟨rb,0,none⟩)] 240)
 have HC2:=Lib.hid (heap_alloc_new w1 (.cells #[.pointer (some ⟨rb,0,none⟩)] 240))
 have HB2:=Lib.hid (Below.next HB1.out hba)
 have HS2:=Lib.hid (HS1.out.below hba)
 have HRD2:=Lib.hid (HRD.out.below hba)
 have hsz:(w1.alloc (.cells #[.pointer (some ⟨rb,0,none⟩)] 240)).heap.size=w1.heap.size+1:=World.size_alloc _ _
 have hw1:w.heap.size<w1.heap.size:=HS1.out.lt
 clear hba HB1 HS1 HRD HRL
 go_upto_region 5 with fail
 generalize w1.alloc (.cells #[.pointer (some ⟨rb,0,none⟩)] 240)=w3 at*
 obtain⟨c,hc⟩: ∃ c,c=w1.heap.size:=⟨_,rfl⟩
 rw [←hc] at hsz hw1 hrl hml HC2
 rw [←hc]
 clear hc
 go_cut [7] from 24 to 47 (fun p wx=> ∃ g,p= .pointer (some ⟨g,0,none⟩)∧Hid (StBlk wx g (stX (nmX xs) [] (whoX xs)) (.slice none 0 0))∧Hid (w3.heap.size≤g)∧Hid (RdAt wx rb mb (rdS xs 11).2 (rdS xs 11).1)∧Hid (Turned (fun j=>j=rb∨j=mb) w3 wx))
 case first=>
  refine wp_region_held_drew (S:=fun w'=>Turned (fun j=>j=rb∨j=mb) w3 w') (by kernel_rfl) (Turned.below (below_drewN' w3 1)) (fun hHeld=> ?_)
  refine tk 0 rfl ?v_1 ?hy_1 ?r_1
  case hy_1=>intro w hSw;go_simp;try with_reducible rfl
  simp only [pA,pB,pC,pD]
  refine tk 2 rfl ?v_2 ?hy_2 ?r_2
  case hy_2=>intro w hSw;go_simp;try with_reducible rfl
  simp only [pA,pB,pC,pD]
  refine tk 4 rfl ?v_3 ?hy_3 ?r_3
  case hy_3=>intro w hSw;go_simp;try with_reducible rfl
  simp only [pA,pB,pC,pD]
  refine tk 6 rfl ?v_4 ?hy_4 ?r_4
  case hy_4=>intro w hSw;go_simp;try with_reducible rfl
  simp only [pA,pB,pC,pD]
  refine tk 8 rfl ?v_5 ?hy_5 ?r_5
  case hy_5=>intro w hSw;go_simp;try with_reducible rfl
  simp only [pA,pB,pC,pD]
  refine tk 10 rfl ?v_6 ?hy_6 ?r_6
  case hy_6=>intro w hSw;go_simp;try with_reducible rfl
  simp only [pA,pB,pC,pD]
  refine tk 12 rfl ?v_7 ?hy_7 ?r_7
  case hy_7=>intro w hSw;go_simp;try with_reducible rfl
  simp only [pA,pB,pC,pD]
  refine tk 14 rfl ?v_8 ?hy_8 ?r_8
  case hy_8=>intro w hSw;go_simp;try with_reducible rfl
  simp only [pA,pB,pC,pD]
  refine tk 16 rfl ?v_9 ?hy_9 ?r_9
  case hy_9=>intro w hSw;go_simp;try with_reducible rfl
  simp only [pA,pB,pC,pD]
  refine tk 18 rfl ?v_10 ?hy_10 ?r_10
  case hy_10=>intro w hSw;go_simp;try with_reducible rfl
  simp only [pA,pB,pC,pD]
  refine tk 20 rfl ?v_11 ?hy_11 ?r_11
  case hy_11=>intro w hSw;have c4:=hSw.cell (show w3.cell? ⟨c,0,none⟩=some (.pointer (some ⟨rb,0,none⟩)) by simp [World.cell?,HC2.out]) (by simp only;omega);go_simp;try with_reducible rfl
  simp only [pA,pB,pC,pD]
  have hbd:Below w3.heap.size w3 (World.drew w3):=below_drewN' w3 1
  have HI0:=Lib.hid (StI.start HRD2.out hbd)
  clear hbd hHeld
  generalize World.drew w3=Wd at*
  have hr3:rb<w3.heap.size:=by omega
  have HTX:=Lib.hid (rdV_text xs)
  have HBT:=Lib.hid (show BRowIn (fun j=>j≠rb∧j≠mb) w3 (rdF xs 10).2 (whoX xs) from rdF_row HRD2.out 10)
  have HRW:=Lib.hid (fun x (hx:x∈xs)=>(HRD2.out.rows x hx).low)
  have hm3:mb<w3.heap.size:=by omega
  have HCC:=Lib.hid (fun(i:Nat) (k:Int) (hi:i<10) (hk:k=(i:Int)+1) (o:Option Nat) (w':World) (hI:StI w3 rb mb xs i o w')=>numC_S HC2.out ⟨by omega,by omega⟩ hr3 hm3 hi hI k hk)
  have HCT:=Lib.hid (fun(o:Option Nat) (w':World) (hI:StI w3 rb mb xs 10 o w')=>textC_S hr3 hm3 hI)
  refine wp_chain0 11 24 (fun i=>2*i+1) (fun i=>2*i+25) (rdV xs) 7 (StI w3 rb mb xs) 3 (by kernel_rfl) (by kernel_rfl) (by decide) (fun i o w' h=>h.2.1) ?hcall ?hal ?hend ?hend0 HI0.out
  case hal=>
   intro i hi w' hI K hK
   refine wpOp_step rfl (fun K' hK'=> ?_)
   rw [if_pos (by kernel_rfl)]
   go_simp
   exact hK' _ _ (hK _ _ hI.alloc)
  case hcall=>
   intro i hi o w' hI K hK
   have HK:=Lib.hid hK
   clear hK
   by_cases h10:i<10
   ·have HC1:=Lib.hid (HCC.out i ((i:Int)+1) h10 rfl o w' hI)
    clear hI HCC HCT
    have h11:i=0∨i=1∨i=2∨i=3∨i=4∨i=5∨i=6∨i=7∨i=8∨i=9:=by omega
    rcases h11 with rfl | rfl | rfl | rfl | rfl | rfl | rfl | rfl | rfl | rfl
    all_goals
     refine wpOp_step rfl (fun K' hK'=> ?_)
     have HK':=Lib.hid hK'
     clear hK'
     rw [if_pos (by kernel_rfl)]
     cases o
     all_goals
      simp only [chA,chT,List.range_succ,List.range_zero,List.foldl_append,List.nil_append,List.foldl_cons,List.foldl_nil,pA,pB,pC,pD] at HK ⊢
      go_simp
      refine HC1.out.mono ?_
      rintro e w2 ⟨rfl,hI2⟩
      exact HK'.out _ _ (HK.out w2 hI2)
   ·obtain rfl:i=10:=by omega
    have HC1:=Lib.hid (HCT.out o w' hI)
    clear hI HCC HCT
    refine wpOp_step rfl (fun K' hK'=> ?_)
    have HK':=Lib.hid hK'
    clear hK'
    rw [if_pos (by kernel_rfl)]
    cases o
    all_goals
     simp only [chA,chT,List.range_succ,List.range_zero,List.foldl_append,List.nil_append,List.foldl_cons,List.foldl_nil,pB,pC,pD] at HK ⊢
     go_simp
     refine HC1.out.mono ?_
     rintro e w2 ⟨rfl,hI2⟩
     exact HK'.out _ _ (HK.out w2 hI2)
  case hend=>
   intro g w' hI
   have hSw0:Turned (fun j=>j=rb∨j=mb) w3 w':=hI.2.1
   have HGZ:=Lib.hid (hI.2.2.1 g rfl).2
   have hg:=(hI.2.2.1 g rfl).1
   have HRX:=Lib.hid hI.1
   clear hI
   simp only [chA,chT,List.range_succ,List.range_zero,List.foldl_append,List.nil_append,List.foldl_cons,List.foldl_nil,pB,pC,pD,HTX.out]
   refine tk 22 rfl ?v_12 ?hy_12 ?r_12
   case hy_12=>intro w hSw;have cv:=conv_brow (HBT.out.turned hSw (fun k hk hs=>by rcases hs with h | h;exact hk.1 h;exact hk.2 h)).brow;go_simp;try with_reducible rfl
   simp only [pA,pB,pC,pD]
   simp only [rdV_num xs 0 (by decide),rdV_num xs 1 (by decide),rdV_num xs 2 (by decide),rdV_num xs 3 (by decide),rdV_num xs 4 (by decide),rdV_num xs 5 (by decide),rdV_num xs 6 (by decide),rdV_num xs 7 (by decide),rdV_num xs 8 (by decide),rdV_num xs 9 (by decide)]
   refine tk 23 rfl ?v_13 ?hy_13 ?r_13
   case hy_13=>intro w hSw;go_simp;try with_reducible rfl
   simp only [pA,pB,pC,pD]
   refine wpAnyH_ready (rs:=[25]) (by kernel_rfl) (by simp) ?_
   refine AllReadyH.cons rfl (fun K hK=> ?_) AllReadyH.nil
   rw [if_pos (by kernel_rfl)]
   refine wp_store_row 164 (.tmp 7) (.tmp 47) rfl g (stCs (stX (nmX xs) [] (whoX xs)) (.slice none 0 0)) rfl (by rw [stCs_X];rfl) 164 (stCs stNone (.slice none 0 0)) HGZ.out stInfo (by rw [stCs_size,stCs_size]) (stCs_one _ _ rfl) ?_
   have ht:Turned (fun k=>k=g) w' (w'.setRow g (stCs (stX (nmX xs) [] (whoX xs)) (.slice none 0 0))):=run_setRow_turned _ _ _
   have HG:=Lib.hid (show StBlk (w'.setRow g (stCs (stX (nmX xs) [] (whoX xs)) (.slice none 0 0))) g (stX (nmX xs) [] (whoX xs)) (.slice none 0 0) from HGZ.out.row)
   have HT:=Lib.hid (show Turned (fun j=>j=rb∨j=mb) w3 (w'.setRow g (stCs (stX (nmX xs) [] (whoX xs)) (.slice none 0 0))) from hSw0.trans ht fun i hi=> .inr (by omega))
   have HR:=Lib.hid (show RdAt (w'.setRow g (stCs (stX (nmX xs) [] (whoX xs)) (.slice none 0 0))) rb mb (rdS xs 11).2 (rdS xs 11).1 from HRX.out.turnedG ht hr3 hm3 (fun x hx=>HRW.out x (rdS_sub xs 11 x hx)) (fun k hk=>by omega))
   clear ht
   generalize w'.setRow g (stCs (stX (nmX xs) [] (whoX xs)) (.slice none 0 0))=w9 at*
   refine hK.out _ _ HT.out (fun hHeld=> ?_)
   clear hK K hHeld
   refine wpAnyH_done (by kernel_rfl) ?_ _
   go_wp2_with fail
   go_meet
   exact⟨g,rfl,HG,Lib.hid hg,HR,HT⟩
  case hend0=>
   intro w0 hI
   have hSw1:Turned (fun j=>j=rb∨j=mb) w3 w0:=hI.2.1
   have HI:=Lib.hid hI.alloc
   have hgs:w3.heap.size≤w0.heap.size:=hI.2.1.size
   clear hI
   simp only [chA,chT,List.range_succ,List.range_zero,List.foldl_append,List.nil_append,List.foldl_cons,List.foldl_nil,pB,pC,pD,HTX.out]
   refine tk 22 rfl ?v_14 ?hy_14 ?r_14
   case hy_14=>intro w hSw;have cv:=conv_brow (HBT.out.turned hSw (fun k hk hs=>by rcases hs with h | h;exact hk.1 h;exact hk.2 h)).brow;go_simp;try with_reducible rfl
   simp only [pA,pB,pC,pD]
   simp only [rdV_num xs 0 (by decide),rdV_num xs 1 (by decide),rdV_num xs 2 (by decide),rdV_num xs 3 (by decide),rdV_num xs 4 (by decide),rdV_num xs 5 (by decide),rdV_num xs 6 (by decide),rdV_num xs 7 (by decide),rdV_num xs 8 (by decide),rdV_num xs 9 (by decide)]
   refine tk 23 rfl ?v_15 ?hy_15 ?r_15
   case hy_15=>intro w hSw;go_simp;try with_reducible rfl
   simp only [pA,pB,pC,pD]
   refine wpAnyH_ready (rs:=[24]) (by kernel_rfl) (by simp) ?_
   refine AllReadyH.cons rfl (fun K hK=> ?_) AllReadyH.nil
   go_simp
   refine hK.out _ _ HI.out.2.1 (fun hHeld=> ?_)
   clear hK K hSw1
   have HJ:=Lib.hid (show StI w3 rb mb xs 11 (some w0.heap.size) (w0.alloc (.cells #[.int .i64 0,.int .i64 0,.int .i64 0,.int .i64 0,.int .i64 0,.slice none 0 0,.int .i64 0,.int .i64 0,.int .i64 0,.int .i64 0,.int .i64 0,.string ⟨#[]⟩] 164)) from HI.out)
   clear HI
   generalize w0.alloc (.cells #[.int .i64 0,.int .i64 0,.int .i64 0,.int .i64 0,.int .i64 0,.slice none 0 0,.int .i64 0,.int .i64 0,.int .i64 0,.int .i64 0,.int .i64 0,.string ⟨#[]⟩] 164)=w' at*
   generalize w0.heap.size=g at*
   have hSw0:Turned (fun j=>j=rb∨j=mb) w3 w':=HJ.out.2.1
   have HGZ:=Lib.hid (HJ.out.2.2.1 g rfl).2
   have hg:=(HJ.out.2.2.1 g rfl).1
   have HRX:=Lib.hid HJ.out.1
   clear HJ hgs hHeld
   refine wpAnyH_ready (rs:=[25]) (by kernel_rfl) (by simp) ?_
   refine AllReadyH.cons rfl (fun K hK=> ?_) AllReadyH.nil
   rw [if_pos (by kernel_rfl)]
   refine wp_store_row 164 (.tmp 7) (.tmp 47) rfl g (stCs (stX (nmX xs) [] (whoX xs)) (.slice none 0 0)) rfl (by rw [stCs_X];rfl) 164 (stCs stNone (.slice none 0 0)) HGZ.out stInfo (by rw [stCs_size,stCs_size]) (stCs_one _ _ rfl) ?_
   have ht:Turned (fun k=>k=g) w' (w'.setRow g (stCs (stX (nmX xs) [] (whoX xs)) (.slice none 0 0))):=run_setRow_turned _ _ _
   have HG:=Lib.hid (show StBlk (w'.setRow g (stCs (stX (nmX xs) [] (whoX xs)) (.slice none 0 0))) g (stX (nmX xs) [] (whoX xs)) (.slice none 0 0) from HGZ.out.row)
   have HT:=Lib.hid (show Turned (fun j=>j=rb∨j=mb) w3 (w'.setRow g (stCs (stX (nmX xs) [] (whoX xs)) (.slice none 0 0))) from hSw0.trans ht fun i hi=> .inr (by omega))
   have HR:=Lib.hid (show RdAt (w'.setRow g (stCs (stX (nmX xs) [] (whoX xs)) (.slice none 0 0))) rb mb (rdS xs 11).2 (rdS xs 11).1 from HRX.out.turnedG ht hr3 hm3 (fun x hx=>HRW.out x (rdS_sub xs 11 x hx)) (fun k hk=>by omega))
   clear ht
   generalize w'.setRow g (stCs (stX (nmX xs) [] (whoX xs)) (.slice none 0 0))=w9 at*
   refine hK.out _ _ HT.out (fun hHeld=> ?_)
   clear hK K hHeld
   refine wpAnyH_done (by kernel_rfl) ?_ _
   go_wp2_with fail
   go_meet
   exact⟨g,rfl,HG,Lib.hid hg,HR,HT⟩
 case rest=>
  obtain⟨g,rfl,HG,hg,HR,HT⟩:=hcut
  have hgl:=hg.out
  have hgw:=HG.out.lt
  have HWH:=Lib.hid (show (whoX xs).length≤200 from rdF_data (fun x hx=>HXD.out x hx) 10)
  generalize nmX xs=nf at*
  generalize whoX xs=wh at*
  have HSW:=Lib.hid (show StBlk wc w.heap.size ⟨0,0,0,0,0,[],0,0,0,0,0,[]⟩ (.slice none 0 0) from(HT.out.block w.heap.size (by omega) (by omega)).trans HS2.out)
  have HRW:=Lib.hid (fun x (hx:x∈xs)=>(HRD2.out.rows x hx).low)
  have HCW:=Lib.hid ((HT.out.block c (by omega) (by omega)).trans HC2.out)
  have HBW:=Lib.hid (show Below w.heap.size w wc from turned_below HB2.out HT.out (fun k hk=>by omega) HB2.out.size)
  have hwc:w3.heap.size≤wc.heap.size:=HT.out.size
  have HW2:=Lib.hid (show w.heap.size<wc.heap.size by omega)
  clear hg HS2 HC2 HB2 HT
  go_wp2_with fail
  go_loopw [8,48] (fun ov iv wr=> ∃ (k:Nat) (ok:Bool) (ls:List Ln) (ys:List (Fld×Value)) (bd:Int) (lv:Value),k≤16∧iv= .int .i64 (k:Int)∧ov= .bool ok∧ls.length=k∧Hid (RdAt wr rb mb bd ys)∧Hid (∀ y∈ys,y∈xs)∧Hid (StBlk wr g (stX nf ls wh) lv)∧Hid (OwnLn wr wc.heap.size lv ls)∧Hid (linesQ 16 12 (fstQ (rdS xs 11)) true []=linesQ (16 - k) (12+(k:Int)) (fstQ (ys,bd)) ok ls)∧Hid (Turned (fun j=>j=rb∨j=mb∨j=g) wc wr)) (fun _ iv _=>16 - (intOf iv).toNat)
  case atStart=>exact⟨0,true,[],(rdS xs 11).1,(rdS xs 11).2,.slice none 0 0,by decide,rfl,rfl,rfl,HR,Lib.hid (rdS_sub xs 11),HG,Lib.hid ⟨rfl,.inl ⟨rfl,rfl⟩⟩,Lib.hid (linesQ_start _),Lib.hid (Turned.below (Below.refl _ _))⟩
  case round=>
   obtain⟨k,ok,ls,ys,bd,lv,hk,rfl,rfl,hlk,HRk,HYS,HGk,HOk,HLK,HTk⟩:=hrel
   have HSk:=Lib.hid (show StBlk wr w.heap.size ⟨0,0,0,0,0,[],0,0,0,0,0,[]⟩ (.slice none 0 0) from(HTk.out.block w.heap.size (by omega) (by omega)).trans HSW.out)
   have HCk:=Lib.hid (show wr.cell? ⟨c,0,none⟩=some (.pointer (some ⟨rb,0,none⟩)) by simp [World.cell?,(HTk.out.block c (by omega) (by omega)).trans HCW.out])
   have HBk:=Lib.hid (show Below w.heap.size w wr from turned_below HBW.out HTk.out (fun k hk=>by omega) HBW.out.size)
   by_cases hlt:k<16
   ·have q1:(k:Int)<16:=by omega
    have hk12:IntKind.i64.wrap (12+(k:Int))=12+(k:Int):=by rw [IntKind.wrap_i64];omega
    have HTX:=Lib.hid (rdText_any wr rb mb bd (12+(k:Int)) ys HRk.out (by omega))
    have HNK:=Lib.hid (show 16 - k=(16 - (k+1))+1 by omega)
    rw [HNK.out] at HLK
    have HQ:=Lib.hid (show takeQ (fstQ (ys,bd)) (12+(k:Int)) true=((takeP ys bd (12+(k:Int)) true).1.1,fstQ (takeP ys bd (12+(k:Int)) true).2) from takeP_Q ys bd _ true)
    have HEND:=Lib.hid (@linesQ_end (16 - (k+1)) (12+(k:Int)) (fstQ (ys,bd)) ok ls)
    have HGO:=Lib.hid (@linesQ_go (16 - (k+1)) (12+(k:Int)) (fstQ (ys,bd)) ok ls)
    rw [HQ.out] at HEND HGO
    have HFM:=Lib.hid (takeP_mem ys bd (12+(k:Int)) true)
    have HFS:=Lib.hid (@takeP_sub ys bd (12+(k:Int)) true)
    obtain⟨y,hy⟩: ∃ y,y=takeP ys bd (12+(k:Int)) true:=⟨_,rfl⟩
    rw [←hy] at HTX HEND HGO HFM HFS
    obtain⟨⟨f,tv⟩,zs,bd2⟩:=y
    dsimp only at HTX HEND HGO HFM HFS
    have HZS:=Lib.hid (fun z (hz:z∈zs)=>HYS.out z (HFS.out z hz))
    have hfl:f.data.length≤200:=by
     rcases HFM.out with e | e
     ·injection e with e _;rw [e];exact Nat.zero_le _
     ·exact HXD.out _ (HYS.out _ e)
    have c4:=HCk.out
    have hrw:wc.heap.size≤wr.heap.size:=HTk.out.size
    clear HQ HNK HFM HFS hy HYS
    go_wp2_with fail
    refine HTX.out.mono ?_
    rintro e w2 ⟨rfl,hbr,hrd2,ht2⟩
    have HT2:=Lib.hid (show Turned (fun j=>j=rb∨j=mb∨j=g) wc w2 from HTk.out.trans ht2 fun i hi=> .inl (by rcases hi with h | h;exact .inl h;exact .inr (.inl h)))
    have HG2:=Lib.hid (show StBlk w2 g (stX nf ls wh) lv from(ht2.block g (by omega) (by omega)).trans HGk.out)
    have HO2:=Lib.hid (show OwnLn w2 wc.heap.size lv ls from own_turned HOk.out ht2 (fun j hj=>by rcases hj with h | h<;>omega))
    have HR2:=Lib.hid hrd2
    have HBR2:=Lib.hid hbr.brow
    have h2s:=ht2.size
    obtain⟨oa,cap,hsh,_⟩:=hbr
    subst hsh
    clear ht2 hrd2 HTX HTk HGk HOk HRk HSk HCk HBk c4
    have HSk:=Lib.hid (show StBlk w2 w.heap.size ⟨0,0,0,0,0,[],0,0,0,0,0,[]⟩ (.slice none 0 0) from(HT2.out.block w.heap.size (by omega) (by omega)).trans HSW.out)
    have HCk:=Lib.hid (show w2.cell? ⟨c,0,none⟩=some (.pointer (some ⟨rb,0,none⟩)) by simp [World.cell?,(HT2.out.block c (by omega) (by omega)).trans HCW.out])
    have HBk:=Lib.hid (show Below w.heap.size w w2 from turned_below HBW.out HT2.out (fun k hk=>by omega) HBW.out.size)
    rcases hd:((f.data.length:Int)==0) with _ | _
    case true=>
     have hfe:f.data=[]:=List.eq_nil_of_length_eq_zero (by have:(f.data.length:Int)=0:=by simpa using hd
                                                           omega)
     have HLk:=Lib.hid (show linesQ 16 12 (fstQ (rdS xs 11)) true []=(ls,ok,fstQ (zs,bd2)) by rw [HLK.out];exact HEND.out hfe)
     have HGk:=HG2
     have HOk:=HO2
     have HRk:=HR2
     clear HLK HEND HGO hfe HG2 HO2 HR2
     have HDE:=Lib.hid (HDS2.out ls ok (fstQ (zs,bd2)) HLk.out)
     have HER:=Lib.hid (rdErr_any w2 rb mb bd2 zs HRk.out)
     rw [errR_Q] at HER
     rw [show errQ (zs.map (·.1),bd2)=errQ (fstQ (zs,bd2)) from rfl] at HER
     have c4:=HCk.out
     generalize errQ (fstQ (zs,bd2))=er at*
     have HWL:=Lib.hid HW2.out
     go_wp2_with fail
     refine HER.out.mono ?_
     rintro e w9 ⟨rfl,rfl⟩
     clear HER HRk HLk
     rcases her:(er != 0) with _ | _
     case true=>
      have HD:=Lib.hid (show decSt b=(stNone,er) by rw [HDE.out,if_pos (by simpa using her)])
      go_wp2_with (with_reducible refine wpList_store_stW rfl (.tmp 2) (.tmp 78) rfl w.heap.size ⟨0,0,0,0,0,[],0,0,0,0,0,[]⟩ ⟨0,0,0,0,0,[],0,0,0,0,0,[]⟩ (.slice none 0 0) (.slice none 0 0) rfl rfl HSk.out rfl ?_)
      intro w8 hw8
      have HS8:=Lib.hid (show StBlk w8 w.heap.size stNone (.slice none 0 0) by rw [hw8.out];exact HSk.out.row)
      have HB8:=Lib.hid (show Below w.heap.size w w8 by rw [hw8.out];exact below_row HBk.out (Nat.le_refl _) _)
      clear hw8
      go_wp2
      refine bodyPost_ret (v:= .tuple #[stV stNone (.slice none 0 0),.int .i64 er]) (results_st2 rfl _ _ w.heap.size stNone _ _ rfl rfl HS8.out) rfl ?_
      rw [HD.out]
      exact⟨_,rfl,⟨rfl,.inl ⟨rfl,rfl⟩⟩,HB8.out⟩
     case false=>
      have HDF:=Lib.hid (show decSt b=if ok&&validB (stX nf ls wh) then ((stX nf ls wh),0) else (stNone,40) by rw [HDE.out,if_neg (by simpa using her)])
      clear HDE
      cases ok
      case false=>
       have HD:=Lib.hid (show decSt b=(stNone,40) by rw [HDF.out];rfl)
       go_wp2_with (with_reducible refine wpList_store_stW rfl (.tmp 2) (.tmp 87) rfl w.heap.size ⟨0,0,0,0,0,[],0,0,0,0,0,[]⟩ ⟨0,0,0,0,0,[],0,0,0,0,0,[]⟩ (.slice none 0 0) (.slice none 0 0) rfl rfl HSk.out rfl ?_)
       intro w8 hw8
       have HS8:=Lib.hid (show StBlk w8 w.heap.size stNone (.slice none 0 0) by rw [hw8.out];exact HSk.out.row)
       have HB8:=Lib.hid (show Below w.heap.size w w8 by rw [hw8.out];exact below_row HBk.out (Nat.le_refl _) _)
       clear hw8
       go_wp2
       refine bodyPost_ret (v:= .tuple #[stV stNone (.slice none 0 0),.int .i64 40]) (results_st2 rfl _ _ w.heap.size stNone _ _ rfl rfl HS8.out) rfl ?_
       rw [HD.out]
       exact⟨_,rfl,⟨rfl,.inl ⟨rfl,rfl⟩⟩,HB8.out⟩
      case true=>
       have hwl:wh.length≤281474976710656:=Nat.le_trans HWH.out (by decide)
       have hrl:LnRow w2 lv ls:=lnRow_own HOk.out
       have HVA:=Lib.hid (oValid_any (stX nf ls wh) lv w2 hrl hwl)
       clear hwl hrl
       rw [Bool.true_and] at HDF
       obtain⟨s,hs⟩: ∃ s,s=(stX nf ls wh):=⟨_,rfl⟩
       have HLS:=Lib.hid (show s.lines=ls by rw [hs])
       rw [←hs] at HVA HDF HGk
       clear hs
       generalize validB s=vb at*
       have d0:=HGk.out.c0
       have d1:=HGk.out.c1
       have d2:=HGk.out.c2
       have d3:=HGk.out.c3
       have d4:=HGk.out.c4
       have d5:=HGk.out.c5
       have d6:=HGk.out.c6
       have d7:=HGk.out.c7
       have d8:=HGk.out.c8
       have d9:=HGk.out.c9
       have d10:=HGk.out.c10
       have d11:=HGk.out.c11
       go_wp2_with fail
       refine HVA.out.mono ?_
       rintro e w7 ⟨rfl,hb7⟩
       have HB7:=Lib.hid hb7
       clear hb7 d0 d1 d2 d3 d4 d5 d6 d7 d8 d9 d10 d11
       cases vb
       ·have HD:=Lib.hid (show decSt b=(stNone,40) by rw [HDF.out];rfl)
        have HS7:=Lib.hid (HSk.out.below HB7.out)
        go_wp2_with (with_reducible refine wpList_store_stW rfl (.tmp 2) (.tmp 87) rfl w.heap.size ⟨0,0,0,0,0,[],0,0,0,0,0,[]⟩ ⟨0,0,0,0,0,[],0,0,0,0,0,[]⟩ (.slice none 0 0) (.slice none 0 0) rfl rfl HS7.out rfl ?_)
        intro w8 hw8
        have HS8:=Lib.hid (show StBlk w8 w.heap.size stNone (.slice none 0 0) by rw [hw8.out];exact HS7.out.row)
        have HB8:=Lib.hid (show Below w.heap.size w w8 by rw [hw8.out];exact below_row (Below.next HBk.out HB7.out) (Nat.le_refl _) _)
        clear hw8
        go_wp2
        refine bodyPost_ret (v:= .tuple #[stV stNone (.slice none 0 0),.int .i64 40]) (results_st2 rfl _ _ w.heap.size stNone _ _ rfl rfl HS8.out) rfl ?_
        rw [HD.out]
        exact⟨_,rfl,⟨rfl,.inl ⟨rfl,rfl⟩⟩,HB8.out⟩
       ·have HD:=Lib.hid (show decSt b=(s,0) by rw [HDF.out,if_pos rfl])
        have HS7:=Lib.hid (HSk.out.below HB7.out)
        have HG7:=Lib.hid (HGk.out.below HB7.out)
        have HO7:=Lib.hid (own_later HOk.out HB7.out)
        have h1v:lv.oneCell'=true:=by obtain⟨_,_,e,_⟩:=own_shape HOk.out;rw [e];rfl
        go_wp2_with (first | (with_reducible refine wpList_load_st rfl (.tmp 7) rfl g s lv rfl HG7.out ?_) | (with_reducible refine wpList_store_stW rfl (.tmp 2) (.tmp 88) rfl w.heap.size ⟨0,0,0,0,0,[],0,0,0,0,0,[]⟩ s (.slice none 0 0) lv rfl rfl HS7.out h1v ?_))
        intro w8 hw8
        have HS8:=Lib.hid (show StBlk w8 w.heap.size s lv by rw [hw8.out];exact HS7.out.row)
        have HB8:=Lib.hid (show Below w.heap.size w w8 by rw [hw8.out];exact below_row (Below.next HBk.out HB7.out) (Nat.le_refl _) _)
        have HO8:=Lib.hid (show OwnLn w8 w.heap.size lv ls by rw [hw8.out];exact own_mono (own_setRow HO7.out HWL.out _) (Nat.le_of_lt HWL.out))
        clear hw8
        go_wp2
        refine bodyPost_ret (v:= .tuple #[stV s lv,.int .i64 0]) (results_st2 rfl _ _ w.heap.size s _ _ rfl rfl HS8.out) rfl ?_
        rw [HD.out]
        exact⟨_,rfl,by rw [HLS.out];exact HO8.out,HB8.out⟩
    case false=>
     have hfe: ¬ f.data=[]:=fun e=>by rw [e] at hd;cases hd
     have HLN:=Lib.hid (HGO.out hfe)
     have HUN:=Lib.hid (unline_any f.data _ w2 HBR2.out (by omega))
     obtain⟨ul,hul⟩: ∃ ul,ul=unlineV f.data:=⟨_,rfl⟩
     rw [←hul] at HUN HLN
     obtain⟨l,fine⟩:=ul
     dsimp only at HUN HLN
     clear hul hfe HEND HGO HSk HCk HBk
     go_wp2_with fail
     refine HUN.out.mono ?_
     rintro e w5 ⟨rfl,hb5⟩
     have hba:=below_alloc w5 (.cells (lnCs l) 223)
     have HB5:=Lib.hid (Below.next hb5 hba)
     have HLB:=Lib.hid (show LnBlk (w5.alloc (.cells (lnCs l) 223)) w5.heap.size l from heap_alloc_new w5 _)
     simp only [lnCs] at HB5 HLB
     have HT5:=Lib.hid (show Turned (fun j=>j=rb∨j=mb∨j=g) wc (w5.alloc (.cells #[.int .i64 l.item,.int .i64 l.price,.int .i64 l.qty,.int .i64 l.shipped] 223)) from HT2.out.trans (Turned.below HB5.out) fun i hi=> .inl hi)
     have HG5:=Lib.hid (HG2.out.below HB5.out)
     have HO5:=Lib.hid (own_later HO2.out HB5.out)
     have HR5:=Lib.hid (HR2.out.below HB5.out)
     have h5s:=HB5.out.size
     have HOB:=Lib.hid (fun k (hk:lv.ownBlock=some k)=>own_blk HO2.out hk)
     have hk1:IntKind.i64.wrap ((k:Int)+1)=(k:Int)+1:=by rw [IntKind.wrap_i64];omega
     have HLK2:=Lib.hid (show linesQ 16 12 (fstQ (rdS xs 11)) true []=linesQ (16 - (k+1)) (12+((k+1:Nat):Int)) (fstQ (zs,bd2)) (ok&&fine) (ls++[l]) by
      rw [HLK.out,HLN.out,show (12+((k+1:Nat):Int))=12+(k:Int)+1 by omega])
     have hrg:(w5.alloc (.cells #[.int .i64 l.item,.int .i64 l.price,.int .i64 l.qty,.int .i64 l.shipped] 223)).rangeAt w5.heap.size 0 (lnCs l).toList:=fun j u hj=>by
      rw [Nat.zero_add,World.cell?_alloc_new]
      simpa [lnCs] using hj
     have HRG:=Lib.hid hrg
     have hcl:wc.heap.size≤(w5.alloc (.cells #[.int .i64 l.item,.int .i64 l.price,.int .i64 l.qty,.int .i64 l.shipped] 223)).heap.size:=by omega
     have hll:ls.length+1≤1000000000:=by omega
     have g5:=HG5.out.c5
     clear hba hb5 hrg HUN HLN HLK HT2 HG2 HO2 HR2 HBR2
     cases ok
     ·go_upto_region 14 with fail
      generalize w5.alloc (.cells #[.int .i64 l.item,.int .i64 l.price,.int .i64 l.qty,.int .i64 l.shipped] 223)=W5 at*
      generalize w5.heap.size=bl at*
      go_wp2_with (first
       | (with_reducible refine wpList_load_ln rfl (.tmp 11) rfl bl 0 l rfl HRG.out ?_)
       | (refine wpList_appLn (l:=l) rfl (.tmp 68) (.tmp 70) rfl rfl rfl HO5.out hcl hll ?_))
      intro v6 w6 ho6 hb6 ht6
      have HT6:=Lib.hid (show Turned (fun j=>j=rb∨j=mb∨j=g) wc w6 from HT5.out.trans ht6 fun i hi=> .inr (HOB.out i hi))
      have HG6:=Lib.hid (show StBlk w6 g (stX nf ls wh) lv from(ht6.block g (by omega) (fun e=>by have:=HOB.out g e;omega)).trans HG5.out)
      have HR6:=Lib.hid (HR5.out.turnedG ht6 (by omega) (by omega) (fun x hx=>HRW.out x (HZS.out x hx)) (fun k hk=>by have:=HOB.out k hk;omega))
      have HO6:=Lib.hid ho6
      clear ho6 hb6 ht6 HT5 HG5 HR5 HO5
      obtain⟨o6,c6,e6,_,_⟩:=own_shape HO6.out
      generalize (ls++[l]).length=n6 at e6
      subst e6
      have g6:=HG6.out.c5
      have fr:=HG6.out.free 5
      have hts:=Turned.setCell (S:=fun j=>j=g) w6 ⟨g,5,none⟩ (.slice o6 n6 c6) rfl
      have HT7:=Lib.hid (show Turned (fun j=>j=rb∨j=mb∨j=g) wc (w6.setCell ⟨g,5,none⟩ (.slice o6 n6 c6)) from HT6.out.trans hts fun i hi=> .inl (.inr (.inr hi)))
      have HG7:=Lib.hid (show StBlk (w6.setCell ⟨g,5,none⟩ (.slice o6 n6 c6)) g (stX nf (ls++[l]) wh) (.slice o6 n6 c6) from HG6.out.putLines (.slice o6 n6 c6))
      have HR7:=Lib.hid (HR6.out.turnedG hts (by omega) (by omega) (fun x hx=>HRW.out x (HZS.out x hx)) (fun k hk=>by omega))
      have HO7:=Lib.hid (show OwnLn (w6.setCell ⟨g,5,none⟩ (.slice o6 n6 c6)) wc.heap.size (.slice o6 n6 c6) (ls++[l]) from own_set HO6.out hgw)
      clear hts HT6 HG6 HR6 HO6
      go_wp2
      go_roundw
      case rel=>exact⟨k+1,_,ls++[l],zs,bd2,.slice o6 n6 c6,by omega,by go_num,rfl,by simp [hlk],HR7,HZS,HG7,HO7,HLK2,HT7⟩
      case measure=>simp [intOf];omega
     ·go_upto_region 14 with fail
      generalize w5.alloc (.cells #[.int .i64 l.item,.int .i64 l.price,.int .i64 l.qty,.int .i64 l.shipped] 223)=W5 at*
      generalize w5.heap.size=bl at*
      go_wp2_with (first
       | (with_reducible refine wpList_load_ln rfl (.tmp 11) rfl bl 0 l rfl HRG.out ?_)
       | (refine wpList_appLn (l:=l) rfl (.tmp 68) (.tmp 70) rfl rfl rfl HO5.out hcl hll ?_))
      intro v6 w6 ho6 hb6 ht6
      have HT6:=Lib.hid (show Turned (fun j=>j=rb∨j=mb∨j=g) wc w6 from HT5.out.trans ht6 fun i hi=> .inr (HOB.out i hi))
      have HG6:=Lib.hid (show StBlk w6 g (stX nf ls wh) lv from(ht6.block g (by omega) (fun e=>by have:=HOB.out g e;omega)).trans HG5.out)
      have HR6:=Lib.hid (HR5.out.turnedG ht6 (by omega) (by omega) (fun x hx=>HRW.out x (HZS.out x hx)) (fun k hk=>by have:=HOB.out k hk;omega))
      have HO6:=Lib.hid ho6
      clear ho6 hb6 ht6 HT5 HG5 HR5 HO5
      obtain⟨o6,c6,e6,_,_⟩:=own_shape HO6.out
      generalize (ls++[l]).length=n6 at e6
      subst e6
      have g6:=HG6.out.c5
      have fr:=HG6.out.free 5
      have hts:=Turned.setCell (S:=fun j=>j=g) w6 ⟨g,5,none⟩ (.slice o6 n6 c6) rfl
      have HT7:=Lib.hid (show Turned (fun j=>j=rb∨j=mb∨j=g) wc (w6.setCell ⟨g,5,none⟩ (.slice o6 n6 c6)) from HT6.out.trans hts fun i hi=> .inl (.inr (.inr hi)))
      have HG7:=Lib.hid (show StBlk (w6.setCell ⟨g,5,none⟩ (.slice o6 n6 c6)) g (stX nf (ls++[l]) wh) (.slice o6 n6 c6) from HG6.out.putLines (.slice o6 n6 c6))
      have HR7:=Lib.hid (HR6.out.turnedG hts (by omega) (by omega) (fun x hx=>HRW.out x (HZS.out x hx)) (fun k hk=>by omega))
      have HO7:=Lib.hid (show OwnLn (w6.setCell ⟨g,5,none⟩ (.slice o6 n6 c6)) wc.heap.size (.slice o6 n6 c6) (ls++[l]) from own_set HO6.out hgw)
      clear hts HT6 HG6 HR6 HO6
      go_wp2
      go_roundw
      case rel=>exact⟨k+1,_,ls++[l],zs,bd2,.slice o6 n6 c6,by omega,by go_num,rfl,by simp [hlk],HR7,HZS,HG7,HO7,HLK2,HT7⟩
      case measure=>simp [intOf];omega
   ·obtain rfl:k=16:=by omega
    have HLk:=Lib.hid (show linesQ 16 12 (fstQ (rdS xs 11)) true []=(ls,ok,fstQ (ys,bd)) by rw [HLK.out,linesQ_out])
    clear HLK
    have HDE:=Lib.hid (HDS2.out ls ok (fstQ (ys,bd)) HLk.out)
    have HER:=Lib.hid (rdErr_any wr rb mb bd ys HRk.out)
    rw [errR_Q] at HER
    rw [show errQ (ys.map (·.1),bd)=errQ (fstQ (ys,bd)) from rfl] at HER
    have c4:=HCk.out
    generalize errQ (fstQ (ys,bd))=er at*
    have HWL:=Lib.hid HW2.out
    go_wp2_with fail
    refine HER.out.mono ?_
    rintro e w9 ⟨rfl,rfl⟩
    clear HER HRk HLk
    rcases her:(er != 0) with _ | _
    case true=>
     have HD:=Lib.hid (show decSt b=(stNone,er) by rw [HDE.out,if_pos (by simpa using her)])
     go_wp2_with (with_reducible refine wpList_store_stW rfl (.tmp 2) (.tmp 78) rfl w.heap.size ⟨0,0,0,0,0,[],0,0,0,0,0,[]⟩ ⟨0,0,0,0,0,[],0,0,0,0,0,[]⟩ (.slice none 0 0) (.slice none 0 0) rfl rfl HSk.out rfl ?_)
     intro w8 hw8
     have HS8:=Lib.hid (show StBlk w8 w.heap.size stNone (.slice none 0 0) by rw [hw8.out];exact HSk.out.row)
     have HB8:=Lib.hid (show Below w.heap.size w w8 by rw [hw8.out];exact below_row HBk.out (Nat.le_refl _) _)
     clear hw8
     go_wp2
     refine bodyPost_ret (v:= .tuple #[stV stNone (.slice none 0 0),.int .i64 er]) (results_st2 rfl _ _ w.heap.size stNone _ _ rfl rfl HS8.out) rfl ?_
     rw [HD.out]
     exact⟨_,rfl,⟨rfl,.inl ⟨rfl,rfl⟩⟩,HB8.out⟩
    case false=>
     have HDF:=Lib.hid (show decSt b=if ok&&validB (stX nf ls wh) then ((stX nf ls wh),0) else (stNone,40) by rw [HDE.out,if_neg (by simpa using her)])
     clear HDE
     cases ok
     case false=>
      have HD:=Lib.hid (show decSt b=(stNone,40) by rw [HDF.out];rfl)
      go_wp2_with (with_reducible refine wpList_store_stW rfl (.tmp 2) (.tmp 87) rfl w.heap.size ⟨0,0,0,0,0,[],0,0,0,0,0,[]⟩ ⟨0,0,0,0,0,[],0,0,0,0,0,[]⟩ (.slice none 0 0) (.slice none 0 0) rfl rfl HSk.out rfl ?_)
      intro w8 hw8
      have HS8:=Lib.hid (show StBlk w8 w.heap.size stNone (.slice none 0 0) by rw [hw8.out];exact HSk.out.row)
      have HB8:=Lib.hid (show Below w.heap.size w w8 by rw [hw8.out];exact below_row HBk.out (Nat.le_refl _) _)
      clear hw8
      go_wp2
      refine bodyPost_ret (v:= .tuple #[stV stNone (.slice none 0 0),.int .i64 40]) (results_st2 rfl _ _ w.heap.size stNone _ _ rfl rfl HS8.out) rfl ?_
      rw [HD.out]
      exact⟨_,rfl,⟨rfl,.inl ⟨rfl,rfl⟩⟩,HB8.out⟩
     case true=>
      have hwl:wh.length≤281474976710656:=Nat.le_trans HWH.out (by decide)
      have hrl:LnRow wr lv ls:=lnRow_own HOk.out
      have HVA:=Lib.hid (oValid_any (stX nf ls wh) lv wr hrl hwl)
      clear hwl hrl
      rw [Bool.true_and] at HDF
      obtain⟨s,hs⟩: ∃ s,s=(stX nf ls wh):=⟨_,rfl⟩
      have HLS:=Lib.hid (show s.lines=ls by rw [hs])
      rw [←hs] at HVA HDF HGk
      clear hs
      generalize validB s=vb at*
      have d0:=HGk.out.c0
      have d1:=HGk.out.c1
      have d2:=HGk.out.c2
      have d3:=HGk.out.c3
      have d4:=HGk.out.c4
      have d5:=HGk.out.c5
      have d6:=HGk.out.c6
      have d7:=HGk.out.c7
      have d8:=HGk.out.c8
      have d9:=HGk.out.c9
      have d10:=HGk.out.c10
      have d11:=HGk.out.c11
      go_wp2_with fail
      refine HVA.out.mono ?_
      rintro e w7 ⟨rfl,hb7⟩
      have HB7:=Lib.hid hb7
      clear hb7 d0 d1 d2 d3 d4 d5 d6 d7 d8 d9 d10 d11
      cases vb
      ·have HD:=Lib.hid (show decSt b=(stNone,40) by rw [HDF.out];rfl)
       have HS7:=Lib.hid (HSk.out.below HB7.out)
       go_wp2_with (with_reducible refine wpList_store_stW rfl (.tmp 2) (.tmp 87) rfl w.heap.size ⟨0,0,0,0,0,[],0,0,0,0,0,[]⟩ ⟨0,0,0,0,0,[],0,0,0,0,0,[]⟩ (.slice none 0 0) (.slice none 0 0) rfl rfl HS7.out rfl ?_)
       intro w8 hw8
       have HS8:=Lib.hid (show StBlk w8 w.heap.size stNone (.slice none 0 0) by rw [hw8.out];exact HS7.out.row)
       have HB8:=Lib.hid (show Below w.heap.size w w8 by rw [hw8.out];exact below_row (Below.next HBk.out HB7.out) (Nat.le_refl _) _)
       clear hw8
       go_wp2
       refine bodyPost_ret (v:= .tuple #[stV stNone (.slice none 0 0),.int .i64 40]) (results_st2 rfl _ _ w.heap.size stNone _ _ rfl rfl HS8.out) rfl ?_
       rw [HD.out]
       exact⟨_,rfl,⟨rfl,.inl ⟨rfl,rfl⟩⟩,HB8.out⟩
      ·have HD:=Lib.hid (show decSt b=(s,0) by rw [HDF.out,if_pos rfl])
       have HS7:=Lib.hid (HSk.out.below HB7.out)
       have HG7:=Lib.hid (HGk.out.below HB7.out)
       have HO7:=Lib.hid (own_later HOk.out HB7.out)
       have h1v:lv.oneCell'=true:=by obtain⟨_,_,e,_⟩:=own_shape HOk.out;rw [e];rfl
       go_wp2_with (first | (with_reducible refine wpList_load_st rfl (.tmp 7) rfl g s lv rfl HG7.out ?_) | (with_reducible refine wpList_store_stW rfl (.tmp 2) (.tmp 88) rfl w.heap.size ⟨0,0,0,0,0,[],0,0,0,0,0,[]⟩ s (.slice none 0 0) lv rfl rfl HS7.out h1v ?_))
       intro w8 hw8
       have HS8:=Lib.hid (show StBlk w8 w.heap.size s lv by rw [hw8.out];exact HS7.out.row)
       have HB8:=Lib.hid (show Below w.heap.size w w8 by rw [hw8.out];exact below_row (Below.next HBk.out HB7.out) (Nat.le_refl _) _)
       have HO8:=Lib.hid (show OwnLn w8 w.heap.size lv ls by rw [hw8.out];exact own_mono (own_setRow HO7.out HWL.out _) (Nat.le_of_lt HWL.out))
       clear hw8
       go_wp2
       refine bodyPost_ret (v:= .tuple #[stV s lv,.int .i64 0]) (results_st2 rfl _ _ w.heap.size s _ _ rfl rfl HS8.out) rfl ?_
       rw [HD.out]
       exact⟨_,rfl,by rw [HLS.out];exact HO8.out,HB8.out⟩
end Go.Proofs.YtlobohpbgghleaaGreatDoor

namespace Go.Proofs.YtlobohpbgghleaaGreatDoor
open Go.RowKit
set_option maxRecDepth 100000 in
set_option maxHeartbeats 4000000 in
theorem bookNum_any (f:Frm) (bv:Value) (w:World) (hv:BRow w bv f.body) (hl:f.body.length≤1048576):
  Calls Tryz.prog 114 #[frV (f.k:Int) (f.s:Int) bv] w fun e w'=>e= .returned (.tuple #[.int .u64 ((numF f).1:Int),.bool (numF f).2])∧Below w.heap.size w w':=by
 obtain⟨k,s,body⟩:=f
 dsimp only at hv hl ⊢
 have HB0:=Lib.hid (below_alloc w (.cells (frCs (k:Int) (s:Int) bv) 148))
 have HF0:=Lib.hid (show FrBlk (w.alloc (.cells (frCs (k:Int) (s:Int) bv) 148)) w.heap.size (k:Int) (s:Int) bv from heap_alloc_new w _)
 have HD:=Lib.hid (varDecode_any body bv _ (hv.below HB0.out) (by omega))
 have HN:=Lib.hid (show numF ⟨k,s,body⟩=((decV body).1,decide ((decV body).2.2=0)&&decide ((decV body).2.1=body.length)) from rfl)
 obtain⟨oa,cap,rfl,_,_⟩:=hv
 simp only [frCs] at HB0 HF0 HD
 obtain⟨r,hr⟩: ∃ r,r=decV body:=⟨_,rfl⟩
 rw [←hr] at HD HN
 clear hr
 obtain⟨u,n,e0⟩:=r
 unfold VarPost at HD
 dsimp only at HD HN
 have c2:=HF0.out.c2
 go_enter Tryz.func114,Tryz.ntmps114
 go_wp2_with fail
 refine HD.out.mono ?_
 rintro e w1 ⟨rfl,hb1⟩
 have HB1:=Lib.hid (Below.next HB0.out hb1)
 have HF1:=Lib.hid (HF0.out.below hb1)
 clear hb1 HD HF0 c2 HB0
 rcases he:(e0==0) with _ | _
 ·have hd:decide (e0=0)=false:=by simpa using he
  go_wp2_with fail
  refine wp_region_held_drew (S:=fun w'=>Below w1.heap.size w1 w') (by kernel_rfl) (below_drewN' w1 1) (fun hHeld=> ?_)
  generalize World.drew _=W at*
  refine tk 0 rfl ?v_1 ?hy_1 ?r_1
  case hy_1=>intro w hSw;go_simp;try with_reducible rfl
  simp only [pA,pB,pC,pD]
  refine tk 1 rfl ?v_2 ?hy_2 ?r_2
  case hy_2=>intro w hSw;go_simp;try with_reducible rfl
  simp only [pA,pB,pC,pD]
  refine tk 2 rfl ?v_3 ?hy_3 ?r_3
  case hy_3=>intro w hSw;go_simp;try with_reducible rfl
  simp only [pA,pB,pC,pD]
  refine tk 3 rfl ?v_4 ?hy_4 ?r_4
  case hy_4=>intro w hSw;go_simp;try with_reducible rfl
  simp only [pA,pB,pC,pD]
  refine tkn 4 rfl ?_
  simp only [pA,pB,pC,pD]
  refine tkn 5 rfl ?_
  simp only [pA,pB,pC,pD]
  refine tkn 6 rfl ?_
  simp only [pA,pB,pC,pD]
  refine tkn 7 rfl ?_
  simp only [pA,pB,pC,pD]
  refine tkn 8 rfl ?_
  simp only [pA,pB,pC,pD]
  refine tk 9 rfl ?v_5 ?hy_5 ?r_5
  case hy_5=>intro w hSw;go_simp;try with_reducible rfl
  simp only [pA,pB,pC,pD]
  refine tk 10 rfl ?v_6 ?hy_6 ?r_6
  case hy_6=>intro w hSw;go_simp;try with_reducible rfl
  simp only [pA,pB,pC,pD]
  refine tk 11 rfl ?v_7 ?hy_7 ?r_7
  case hy_7=>intro w hSw;go_simp;try with_reducible rfl
  simp only [pA,pB,pC,pD]
  refine wpAnyH_done (by kernel_rfl) ?_ _
  go_wp2
  go_ret2
  exact⟨by rw [HN.out,hd];rfl,Below.next HB1.out hHeld⟩
 ·have hd:decide (e0=0)=true:=by simpa using he
  have hn:((n:Int)==(body.length:Int))=decide (n=body.length):=by rw [Bool.eq_iff_iff];simp;omega
  go_wp2_with fail
  refine wp_region_held_drew (S:=fun w'=>Below w1.heap.size w1 w') (by kernel_rfl) (below_drewN' w1 1) (fun hHeld=> ?_)
  generalize World.drew _=W at*
  refine tk 0 rfl ?v_8 ?hy_8 ?r_8
  case hy_8=>intro w hSw;have c2:=(HF1.out.below hSw).c2;go_simp;try with_reducible rfl
  simp only [pA,pB,pC,pD]
  refine tk 1 rfl ?v_9 ?hy_9 ?r_9
  case hy_9=>intro w hSw;have c2:=(HF1.out.below hSw).c2;go_simp;try with_reducible rfl
  simp only [pA,pB,pC,pD]
  refine tk 2 rfl ?v_10 ?hy_10 ?r_10
  case hy_10=>intro w hSw;have c2:=(HF1.out.below hSw).c2;go_simp;try with_reducible rfl
  simp only [pA,pB,pC,pD]
  refine tk 3 rfl ?v_11 ?hy_11 ?r_11
  case hy_11=>intro w hSw;have c2:=(HF1.out.below hSw).c2;go_simp;try with_reducible rfl
  simp only [pA,pB,pC,pD]
  refine tk 4 rfl ?v_12 ?hy_12 ?r_12
  case hy_12=>intro w hSw;have c2:=(HF1.out.below hSw).c2;go_simp;try with_reducible rfl
  simp only [pA,pB,pC,pD]
  refine tk 5 rfl ?v_13 ?hy_13 ?r_13
  case hy_13=>intro w hSw;have c2:=(HF1.out.below hSw).c2;go_simp;try with_reducible rfl
  simp only [pA,pB,pC,pD]
  refine tk 6 rfl ?v_14 ?hy_14 ?r_14
  case hy_14=>intro w hSw;have c2:=(HF1.out.below hSw).c2;go_simp;try with_reducible rfl
  simp only [pA,pB,pC,pD]
  refine tk 7 rfl ?v_15 ?hy_15 ?r_15
  case hy_15=>intro w hSw;have c2:=(HF1.out.below hSw).c2;go_simp;try with_reducible rfl
  simp only [pA,pB,pC,pD]
  refine tk 8 rfl ?v_16 ?hy_16 ?r_16
  case hy_16=>intro w hSw;have c2:=(HF1.out.below hSw).c2;go_simp;try with_reducible rfl
  simp only [pA,pB,pC,pD]
  refine tk 9 rfl ?v_17 ?hy_17 ?r_17
  case hy_17=>intro w hSw;have c2:=(HF1.out.below hSw).c2;go_simp;try with_reducible rfl
  simp only [pA,pB,pC,pD]
  refine tk 10 rfl ?v_18 ?hy_18 ?r_18
  case hy_18=>intro w hSw;have c2:=(HF1.out.below hSw).c2;go_simp;try with_reducible rfl
  simp only [pA,pB,pC,pD]
  refine tk 11 rfl ?v_19 ?hy_19 ?r_19
  case hy_19=>intro w hSw;have c2:=(HF1.out.below hSw).c2;go_simp;try with_reducible rfl
  simp only [pA,pB,pC,pD]
  refine wpAnyH_done (by kernel_rfl) ?_ _
  go_wp2
  go_ret2
  exact⟨by rw [HN.out,hd,Bool.true_and,←hn];rfl,Below.next HB1.out hHeld⟩
theorem bookOk_out {last:Int} {s:St} {r:List St} (h: ¬ (last<s.order∧1≤s.events)):bookOk last (s::r)=false:=by
 rw [bookOk]
 by_cases h1:last<s.order
 ·have: ¬ 1≤s.events:=fun h2=>h ⟨h1,h2⟩
  simp [this]
 ·simp [h1]
theorem bookOk_in {last:Int} {s:St} {r:List St} (h1:last<s.order) (h2:1≤s.events):bookOk last (s::r)=(validB s&&bookOk s.order r):=by
 rw [bookOk,decide_eq_true h1,decide_eq_true h2,Bool.true_and,Bool.true_and]
set_option maxRecDepth 100000 in
set_option maxHeartbeats 4000000 in
theorem bookValid_any {A:Nat→Prop} (ss:List St) (v:Value) (w:World) (hr:StsIn A w v ss) (hw: ∀ s∈ss,s.who.length≤281474976710656):
  Calls Tryz.prog 116 #[v] w fun e w'=>e= .returned (.bool (bookOk 0 ss))∧Below w.heap.size w w':=by
 have HSH:=Lib.hid hr.shape
 have HW:=Lib.hid hw
 obtain⟨oa,cap,rfl,h1,h2,_⟩:=hr.shape
 clear hr hw
 go_enter Tryz.func116,Tryz.ntmps116
 go_wp2
 go_loopw [3,8] (fun lv iv wr=> ∃ (k:Nat) (last:Int),k≤ss.length∧iv= .int .i64 (k:Int)∧lv= .int .i64 last∧Hid (bookOk 0 ss=bookOk last (ss.drop k))∧Hid (Below w.heap.size w wr)) (fun _ iv _=>ss.length - (intOf iv).toNat)
 case atStart=>exact⟨0,0,Nat.zero_le _,rfl,rfl,Lib.hid rfl,Lib.hid (Below.refl _ _)⟩
 case round=>
  obtain⟨k,last,hk,rfl,rfl,HO,HB⟩:=hrel
  by_cases hlt:k<ss.length
  ·obtain⟨s,hs,_,hm⟩:=nth ss k hlt
   have hdr:ss.drop k=s::ss.drop (k+1):=by rw [List.drop_eq_getElem_cons hlt];rw [List.getElem?_eq_getElem hlt] at hs;rw [Option.some.inj hs]
   rw [hdr] at HO
   obtain⟨oa',cap',e',_,_,hat⟩:=HSH.out
   simp only [Value.slice.injEq,true_and] at e'
   obtain⟨rfl,rfl⟩:=e'
   obtain⟨b,off,rfl,_,lv,hce,hln⟩:=hat k s hs
   have q1:(k:Int)<(ss.length:Int):=by omega
   have HCE:=Lib.hid (range_later hce HB.out)
   have HLN:=Lib.hid (hln.below HB.out)
   have HWS:=Lib.hid (HW.out s hm)
   have h1v:=hln.one
   have HBZ:=Lib.hid (below_alloc wr (.cells (stCs stNone (.slice none 0 0)) 164))
   have HSZ:=Lib.hid (stBlk_alloc wr stNone (.slice none 0 0))
   have hk1:IntKind.i64.wrap ((k:Int)+1)=(k:Int)+1:=by rw [IntKind.wrap_i64];omega
   clear hs hm hdr hat hce hln
   simp only [stCs,stNone] at HBZ HSZ
   go_wp2_with (first | (with_reducible refine wpList_load_stAt rfl (.tmp 10) rfl b (off+k*12) s lv rfl HCE.out ?_) | (with_reducible refine wpList_store_stW rfl (.tmp 5) (.tmp 11) rfl wr.heap.size ⟨0,0,0,0,0,[],0,0,0,0,0,[]⟩ s (.slice none 0 0) lv rfl rfl HSZ.out h1v ?_))
   intro w2 hw2
   have HS2:=Lib.hid (show StBlk w2 wr.heap.size s lv by rw [hw2.out];exact HSZ.out.row)
   have HB2:=Lib.hid (show Below wr.heap.size wr w2 by rw [hw2.out];exact below_row HBZ.out (Nat.le_refl _) _)
   have HBW:=Lib.hid (Below.next HB.out HB2.out)
   have HL2:=Lib.hid (HLN.out.below HB2.out)
   clear hw2 HBZ HSZ HCE HLN HB HB2
   have c0:=HS2.out.c0
   have c8:=HS2.out.c8
   rcases hd:decide (s.order≤last) with _ | _
   ·rcases he:decide (s.events<1) with _ | _
    ·have e1:last<s.order:=by simpa using hd
     have e2:1≤s.events:=by simpa using he
     have HO2:=Lib.hid (show bookOk 0 ss=(validB s&&bookOk s.order (ss.drop (k+1))) by rw [HO.out,bookOk_in e1 e2])
     have HV:=Lib.hid (oValid_any s lv w2 HL2.out.row HWS.out)
     obtain⟨vb,hvb⟩: ∃ vb,vb=validB s:=⟨_,rfl⟩
     rw [←hvb] at HO2 HV
     have c1:=HS2.out.c1
     have c2:=HS2.out.c2
     have c3:=HS2.out.c3
     have c4:=HS2.out.c4
     have c5:=HS2.out.c5
     have c6:=HS2.out.c6
     have c7:=HS2.out.c7
     have c9:=HS2.out.c9
     have c10:=HS2.out.c10
     have c11:=HS2.out.c11
     clear e1 e2 hvb HO
     go_wp2_with fail
     refine HV.out.mono ?_
     rintro e w3 ⟨rfl,hb3⟩
     have HB3:=Lib.hid (Below.next HBW.out hb3)
     have HS3:=Lib.hid (HS2.out.below hb3)
     clear hb3 c0 c8 c1 c2 c3 c4 c5 c6 c7 c9 c10 c11
     have d0:=HS3.out.c0
     cases vb
     ·go_wp2
      go_ret
      exact⟨by rw [HO2.out];rfl,HB3.out⟩
     ·go_wp2
      go_roundw
      case rel=>exact⟨k+1,s.order,by omega,by go_num,rfl,Lib.hid (by rw [HO2.out,Bool.true_and]),HB3⟩
      case measure=>simp [intOf];omega
    ·have HE:=Lib.hid (show bookOk 0 ss=false by rw [HO.out,bookOk_out];rintro⟨_,h⟩;have:=of_decide_eq_true he;omega)
     go_wp2
     go_ret
     exact⟨by rw [HE.out];rfl,HBW.out⟩
   ·have HE:=Lib.hid (show bookOk 0 ss=false by rw [HO.out,bookOk_out];rintro⟨h,_⟩;have:=of_decide_eq_true hd;omega)
    go_wp2
    go_ret
    exact⟨by rw [HE.out];rfl,HBW.out⟩
  ·obtain rfl:k=ss.length:=by omega
   have HE:=Lib.hid (show bookOk 0 ss=true by rw [HO.out,List.drop_length];rfl)
   go_wp2
   go_ret
   exact⟨by rw [HE.out];rfl,HB.out⟩
end Go.Proofs.YtlobohpbgghleaaGreatDoor

namespace Go.Proofs.YtlobohpbgghleaaGreatDoor
open Go.RowKit
def BookP (w:World) (r:Option (Nat×Nat×List St)) (e:Ending) (w':World):Prop:=Below w.heap.size w w'∧
 match r with
 | none=>e= .returned (.tuple #[.int .i64 0,.int .i64 0,.slice none 0 0,.int .i64 81])
 | some r=> ∃ v,e= .returned (.tuple #[.int .i64 (r.1:Int),.int .i64 (r.2.1:Int),v,.int .i64 0])∧StsIn (fun k=>w.heap.size≤k) w' v r.2.2
theorem run_cut_pc (oa:Option Addr) (len cap lo hi:Nat) (h1:lo≤hi) (h2:hi≤cap) (w:World):(Instr.slice 118 (.slice oa len cap) (some (.int .i64 lo)) (some (.int .i64 hi)) none).run Tryz.prog w= .ok (sliced oa lo hi cap 5) w:=by
 rw [run_slice_lh (P:=Tryz.prog) w 118 oa len cap (by kernel_rfl) .i64 .i64 lo hi (by omega) (by omega) (by omega)]
 have:(sizeOf (Tryz.prog.elem 118)).run Tryz.prog w= .ok 5 w:=by kernel_rfl
 rw [this];rfl
theorem frm_range {w:World} {b o:Nat} {p:Plc} {dv:Value} (h:w.rangeAt b o (pcCs p dv).toList):w.rangeAt b (o+2) (frCs (p.f.k:Int) (p.f.s:Int) dv).toList:=fun j u hj=>by
 have:=h (j+2) u (by
  have hl:j<3:=by have:=getElem?_lt hj;simpa [frCs] using this
  obtain rfl | rfl | rfl:j=0∨j=1∨j=2:=by omega
  all_goals simpa [frCs,pcCs] using hj)
 rw [←this]
 congr 2
 omega
theorem wpList_load_pc {ops:Array Oper} {rest:List Oper} {o:Oper} {a:Act} {w:World} {Q:Exit→Act→World→Prop} (hgd:o.guard=none) (x:Operand) (ho:o.op= .load 160 x)
  (b off:Nat) (p:Plc) (dv:Value) (hx:a.eval x= .pointer (some ⟨b,off,none⟩)) (hE:w.rangeAt b off (pcCs p dv).toList)
  (h:wpList Tryz.prog ops Q rest (a.put o.dst (pcV p dv)) w):wpList Tryz.prog ops Q (o::rest) a w:=
 wpList_load_mid hgd 160 x ho b off hx (pcCs p dv).toList _ hE Tryz.underlying160 rfl pcInfo h
theorem cut_pc (b off n cap:Nat) (h2:2≤n) (hc:n≤cap) (w:World):(Instr.sliceAt 118 (.slice (some ⟨b,off,none⟩) n cap) (some (.int .i64 1)) (some (.int .i64 ((n - 1:Nat):Int))) none).run Tryz.prog w= .ok (.slice (some ⟨b,off+5,none⟩) (n - 2) (cap - 1)) w:=by
 rw [run_sliceAt_slice _ _ _ _ _ _ (by kernel_rfl)]
 have h:=run_cut_pc (some ⟨b,off,none⟩) n cap 1 (n - 1) (by omega) (by omega) w
 refine h.trans ?_
 unfold sliced
 rw [if_neg (by omega),show n - 1 - 1=n - 2 by omega]
 simp [Addr.add]
theorem takeQ_sub {q:List Fld×Int} {k:Int} {t:Bool}: ∀ f∈(takeQ q k t).2.1,f∈q.1:=by
 intro f hf
 unfold takeQ at hf
 split at hf
 ·exact hf
 ·split at hf
  ·exact(List.mem_filter.1 hf).1
  ·exact(List.mem_filter.1 hf).1
theorem takeQ_mem (q:List Fld×Int) (k:Int) (t:Bool):(takeQ q k t).1=fld0∨(takeQ q k t).1∈q.1:=by
 unfold takeQ
 rcases h:q.1.find? (tagQ k) with _ | f
 ·exact .inl rfl
 ·dsimp only
  split
  ·exact .inr (List.mem_of_find?_eq_some h)
  ·exact .inl rfl
theorem numsQ_sub: ∀ (n:Nat) (k:Int) (q:List Fld×Int) (vs:List Int),∀ f∈(numsQ n k q vs).2.1,f∈q.1
 | 0,_,_,_=>fun _ h=>h
 | n+1,k,q,vs=>fun f hf=>by
  rw [numsQ] at hf
  exact takeQ_sub f (numsQ_sub n _ _ _ f hf)
theorem decSt_who (b:List UInt8):(decSt b).1.who.length≤200:=by
 have hd:= @tlvDec_data b
 have hs:=numsQ_sub 10 1 ((tlvDec b).2,0) []
 unfold decSt
 generalize tlvDec b=td at*
 dsimp only
 generalize numsQ 10 1 (td.2,0) []=ns at*
 have hm:=takeQ_mem ns.2 11 true
 generalize takeQ ns.2 11 true=tx at*
 generalize linesQ 16 12 tx.2 true []=ls at*
 have hw:tx.1.data.length≤200:=by
  rcases hm with e | e
  ·rw [e];exact Nat.zero_le _
  ·exact hd _ (hs _ e)
 split
 ·exact Nat.zero_le _
 ·split
  ·exact Nat.zero_le _
  ·split
   ·exact hw
   ·exact Nat.zero_le _
theorem own_lt {w:World} {B size n k:Nat} {e:TypeId} {v:Value} {xs:List Value} (h:w.ownsRow B e size v n xs) (hk:v.ownBlock=some k):k<w.heap.size:=by
 rcases h.2 with⟨rfl,_⟩ | ⟨g,cap,cur,rfl,_,hg,_⟩
 ·cases hk
 ·cases hk;exact(Array.getElem?_eq_some_iff.1 hg).1
set_option maxRecDepth 100000 in
set_option maxHeartbeats 8000000 in
theorem bookDec_any (b:List UInt8) (v:Value) (w:World) (hv:BRow w v b) (hl:b.length≤67108864) (hn:NibTab w):
  Calls Tryz.prog 80 #[v] w (BookP w (decBook b)):=by
 have HA:=Lib.hid (scanAll_any b v w hv hl hn)
 have HLE:=Lib.hid (show (scanAll b).1.length≤67108864 from by
  have:=frs_len b
  simp only [scanAll,plcs,List.length_map]
  omega)
 have HBL:=Lib.hid (show ∀ p∈(scanAll b).1,p.f.body.length≤16384 from fun p hp=>by
  simp only [scanAll,plcs] at hp
  obtain⟨x,hx,rfl⟩:=List.mem_map.1 hp
  exact(frs_mem hx).2)
 have HE:=Lib.hid (show decBook b=if (scanAll b).2.2≠0∨(scanAll b).1.length<2 then none
  else if bookBad ((scanAll b).1.getD 0 zPlc).f ((scanAll b).1.getD ((scanAll b).1.length - 1) zPlc).f ((scanAll b).1.length - 2) then none
  else match stsP (((scanAll b).1.take ((scanAll b).1.length - 1)).drop 1) [] with
   | none=>none
   | some ss=>if bookOk 0 ss then some (((scanAll b).1.getD 0 zPlc).f.s,(numF ((scanAll b).1.getD 0 zPlc).f).1,ss) else none from rfl)
 obtain⟨oa0,cap0,rfl,_,_⟩:=hv
 obtain⟨r,hr⟩: ∃ r,r=scanAll b:=⟨_,rfl⟩
 rw [←hr] at HA HE HLE HBL
 clear hr hn hl
 obtain⟨ps,en,e0⟩:=r
 unfold AllP at HA
 dsimp only at HA HE HLE HBL
 go_enter Tryz.func80,Tryz.ntmps80
 go_wp2_with fail
 refine HA.out.mono ?_
 rintro e w1 ⟨v1,rfl,hpc,hb1⟩
 have HSH:=Lib.hid hpc.shape
 obtain⟨oa,cap,hsh,hpl,hpc3,_⟩:=hpc.shape
 subst hsh
 have HB1:=Lib.hid hb1
 have hple:=HLE.out
 clear hb1 HA hpc
 rcases he:(e0 != 0) with _ | _
 case true=>
  have HD:=Lib.hid (show decBook b=none by rw [HE.out,if_pos (.inl (by simpa using he))])
  go_wp2
  refine bodyPost_ret (v:= .tuple #[.int .i64 0,.int .i64 0,.slice none 0 0,.int .i64 81]) (by simp [results,Tryz.results80,go_sem]) rfl ⟨HB1.out,by rw [HD.out]⟩
 rcases hl2:decide ((ps.length:Int)<2) with _ | _
 case true=>
  have HD:=Lib.hid (show decBook b=none by rw [HE.out,if_pos (.inr (by have:=of_decide_eq_true hl2;omega))])
  go_wp2
  refine bodyPost_ret (v:= .tuple #[.int .i64 0,.int .i64 0,.slice none 0 0,.int .i64 81]) (by simp [results,Tryz.results80,go_sem]) rfl ⟨HB1.out,by rw [HD.out]⟩
 have hn2:2≤ps.length:=by have:=of_decide_eq_false hl2;omega
 have HE2:=Lib.hid (show decBook b=if bookBad (ps.getD 0 zPlc).f (ps.getD (ps.length - 1) zPlc).f (ps.length - 2) then none
  else match stsP ((ps.take (ps.length - 1)).drop 1) [] with
   | none=>none
   | some ss=>if bookOk 0 ss then some ((ps.getD 0 zPlc).f.s,(numF (ps.getD 0 zPlc).f).1,ss) else none by rw [HE.out,if_neg (by rintro(h | h);exact h (by simpa using he);omega)])
 have hp0:ps[0]? =some (ps.getD 0 zPlc):=by rw [List.getElem?_eq_getElem (by omega)];simp [show 0<ps.length by omega]
 have hpn:ps[ps.length - 1]? =some (ps.getD (ps.length - 1) zPlc):=by rw [List.getElem?_eq_getElem (by omega)];simp [show ps.length - 1<ps.length by omega]
 obtain⟨p,hp⟩: ∃ p,p=ps.getD 0 zPlc:=⟨_,rfl⟩
 obtain⟨q,hq⟩: ∃ q,q=ps.getD (ps.length - 1) zPlc:=⟨_,rfl⟩
 rw [←hp] at hp0 HE2
 rw [←hq] at hpn HE2
 have HPL:=Lib.hid (HBL.out p (List.mem_of_getElem? hp0))
 have HQL:=Lib.hid (HBL.out q (List.mem_of_getElem? hpn))
 have HHT:=Lib.hid (show ∀ (i:Nat) x,ps[i]? =some x→ ∃ b off,oa=some ⟨b,off,none⟩∧ ∃ dv,w1.rangeAt b (off+i*5) (pcCs x dv).toList∧BRow w1 dv x.f.body from fun i x hx=>by
  obtain⟨o1,c1,e1,_,_,h1⟩:=HSH.out
  simp only [Value.slice.injEq,true_and] at e1
  obtain⟨rfl,rfl⟩:=e1
  obtain⟨b,off,e2,_,dv,h2,h3⟩:=h1 i x hx
  exact⟨b,off,e2,dv,h2,h3.brow⟩)
 obtain⟨bb,off,rfl,pv,hpr,hpb⟩:=HHT.out 0 p hp0
 obtain⟨b2,off2,e2,qv,hqr,hqb⟩:=HHT.out (ps.length - 1) q hpn
 simp only [Option.some.injEq,Addr.mk.injEq,and_true] at e2
 obtain⟨rfl,rfl⟩:=e2
 have hpv:pv.oneCell'=true:=by obtain⟨_,_,e,_⟩:=hpb;rw [e];rfl
 have hqv:qv.oneCell'=true:=by obtain⟨_,_,e,_⟩:=hqb;rw [e];rfl
 have HPB:=Lib.hid hpb
 have HQB:=Lib.hid hqb
 have HPR:=Lib.hid (show w1.rangeAt bb (off+2) (frCs (p.f.k:Int) (p.f.s:Int) pv).toList by have:=frm_range hpr;rwa [show off+0*5+2=off+2 by omega] at this)
 have HQR:=Lib.hid (frm_range hqr)
 have q0:0<ps.length:=by omega
 have qm:ps.length - 1<ps.length:=by omega
 have qn:((ps.length - 1:Nat):Int)<(ps.length:Int):=by omega
 have hwn:IntKind.i64.wrap ((ps.length:Int) - 1)=((ps.length - 1:Nat):Int):=by rw [IntKind.wrap_i64];omega
 clear hp hq hp0 hpn hpr hqr hpb hqb HE HSH
 go_upto_region 4 with fail
 go_cut [9,10] from 34 to 44 (fun x y wx=> ∃ g1 g2,x= .pointer (some ⟨g1,0,none⟩)∧y= .pointer (some ⟨g2,0,none⟩)∧Hid (FrBlk wx g1 (p.f.k:Int) (p.f.s:Int) pv)∧Hid (FrBlk wx g2 (q.f.k:Int) (q.f.s:Int) qv)∧Hid (Below w1.heap.size w1 wx))
 case first=>
  refine wp_region_held_drew (S:=fun w'=>Below w1.heap.size w1 w') (by kernel_rfl) (below_drewN' w1 1) (fun hHeld=> ?_)
  refine tk 0 rfl ?v_1 ?hy_1 ?r_1
  case hy_1=>intro w hSw;go_simp;try with_reducible rfl
  simp only [pA,pB,pC,pD]
  refine tk 1 rfl ?v_2 ?hy_2 ?r_2
  case hy_2=>intro w hSw;go_simp;try with_reducible rfl
  simp only [pA,pB,pC,pD]
  refine tk 2 rfl ?v_3 ?hy_3 ?r_3
  case hy_3=>intro w hSw;go_simp;try with_reducible rfl
  simp only [pA,pB,pC,pD]
  refine tkl 3 bb (off+2) [.int .i64 (p.f.k:Int),.int .i64 (p.f.s:Int),pv] rfl rfl (fun w' h=>range_later HPR.out h) Tryz.underlying148 rfl (by rw [frInfo];rfl) ?_
  simp only [pA,pB,pC,pD]
  refine tk 4 rfl ?v_4 ?hy_4 ?r_4
  case hy_4=>intro w hSw;go_simp;try with_reducible rfl
  simp only [pA,pB,pC,pD]
  refine tk 5 rfl ?v_5 ?hy_5 ?r_5
  case hy_5=>intro w hSw;go_simp;try with_reducible rfl
  simp only [pA,pB,pC,pD]
  refine tk 6 rfl ?v_6 ?hy_6 ?r_6
  case hy_6=>intro w hSw;go_simp;try with_reducible rfl
  simp only [pA,pB,pC,pD]
  refine tk 7 rfl ?v_7 ?hy_7 ?r_7
  case hy_7=>intro w hSw;go_simp;try with_reducible rfl
  simp only [pA,pB,pC,pD]
  refine tk 8 rfl ?v_8 ?hy_8 ?r_8
  case hy_8=>intro w hSw;go_simp;try with_reducible rfl
  simp only [pA,pB,pC,pD]
  refine tk 9 rfl ?v_9 ?hy_9 ?r_9
  case hy_9=>intro w hSw;go_simp;try with_reducible rfl
  simp only [pA,pB,pC,pD]
  refine tkl 10 bb (off+(ps.length - 1)*5+2) [.int .i64 (q.f.k:Int),.int .i64 (q.f.s:Int),qv] rfl rfl (fun w' h=>range_later HQR.out h) Tryz.underlying148 rfl (by rw [frInfo];rfl) ?_
  simp only [pA,pB,pC,pD]
  generalize World.drew _=Wd at*
  refine wpAnyH_ready (rs:=[11,12]) (by kernel_rfl) (by simp) ?_
  refine AllReadyH.cons rfl (fun K hK=> ?_) (AllReadyH.cons rfl (fun K hK=> ?_) AllReadyH.nil)
  ·have hba:=below_alloc Wd (.cells #[.int .i64 0,.int .i64 0,.slice none 0 0] 148)
   have HFa:=Lib.hid (show FrBlk (Wd.alloc (.cells #[.int .i64 0,.int .i64 0,.slice none 0 0] 148)) Wd.heap.size 0 0 (.slice none 0 0) from heap_alloc_new Wd _)
   have hg0:=hHeld.size
   have hga:=HFa.out.lt
   go_simp
   refine hK.out _ _ (Below.next hHeld hba) (fun hHeld=> ?_)
   clear hK K hba
   generalize Wd.heap.size=ga at*
   generalize Wd.alloc (.cells #[.int .i64 0,.int .i64 0,.slice none 0 0] 148)=Wa at*
   have hbb:=below_alloc Wa (.cells #[.int .i64 0,.int .i64 0,.slice none 0 0] 148)
   have HFb:=Lib.hid (show FrBlk (Wa.alloc (.cells #[.int .i64 0,.int .i64 0,.slice none 0 0] 148)) Wa.heap.size 0 0 (.slice none 0 0) from heap_alloc_new Wa _)
   have HFa:=Lib.hid (HFa.out.below hbb)
   refine wpAnyH_ready (rs:=[12]) (by kernel_rfl) (by simp) ?_
   refine AllReadyH.cons rfl (fun K hK=> ?_) AllReadyH.nil
   go_simp
   refine hK.out _ _ (Below.next hHeld hbb) (fun hHeld=> ?_)
   clear hK K hbb
   generalize Wa.heap.size=gb at*
   generalize Wa.alloc (.cells #[.int .i64 0,.int .i64 0,.slice none 0 0] 148)=Wb at*
   refine wpAnyH_ready (rs:=[13]) (by kernel_rfl) (by simp) ?_
   refine AllReadyH.cons rfl (fun K hK=> ?_) AllReadyH.nil
   rw [if_pos (by kernel_rfl)]
   refine wp_store_row 148 (.tmp 9) (.tmp 37) rfl ga (frCs (p.f.k:Int) (p.f.s:Int) pv) rfl rfl 148 (frCs 0 0 (.slice none 0 0)) HFa.out frInfo rfl (frCs_all _ _ _ hpv) ?_
   have HS1:=Lib.hid (show FrBlk (Wb.setRow ga (frCs (p.f.k:Int) (p.f.s:Int) pv)) ga (p.f.k:Int) (p.f.s:Int) pv from HFa.out.row)
   have HS2:=Lib.hid (show FrBlk (Wb.setRow ga (frCs (p.f.k:Int) (p.f.s:Int) pv)) gb 0 0 (.slice none 0 0) from(setRow_other _ _ _ _ (by omega)).trans HFb.out)
   have hbr:Below w1.heap.size w1 (Wb.setRow ga (frCs (p.f.k:Int) (p.f.s:Int) pv)):=below_row hHeld (by omega) _
   generalize Wb.setRow ga (frCs (p.f.k:Int) (p.f.s:Int) pv)=Wc at*
   refine hK.out _ _ hbr (fun hHeld=> ?_)
   clear hK K HFa HFb hbr
   refine wpAnyH_ready (rs:=[14]) (by kernel_rfl) (by simp) ?_
   refine AllReadyH.cons rfl (fun K hK=> ?_) AllReadyH.nil
   rw [if_pos (by kernel_rfl)]
   refine wp_store_row 148 (.tmp 10) (.tmp 44) rfl gb (frCs (q.f.k:Int) (q.f.s:Int) qv) rfl rfl 148 (frCs 0 0 (.slice none 0 0)) HS2.out frInfo rfl (frCs_all _ _ _ hqv) ?_
   have HT2:=Lib.hid (show FrBlk (Wc.setRow gb (frCs (q.f.k:Int) (q.f.s:Int) qv)) gb (q.f.k:Int) (q.f.s:Int) qv from HS2.out.row)
   have HT1:=Lib.hid (show FrBlk (Wc.setRow gb (frCs (q.f.k:Int) (q.f.s:Int) qv)) ga (p.f.k:Int) (p.f.s:Int) pv from(setRow_other _ _ _ _ (by omega)).trans HS1.out)
   have HBR:=Lib.hid (show Below w1.heap.size w1 (Wc.setRow gb (frCs (q.f.k:Int) (q.f.s:Int) qv)) from below_row hHeld (by omega) _)
   generalize Wc.setRow gb (frCs (q.f.k:Int) (q.f.s:Int) qv)=We at*
   refine hK.out _ _ HBR.out (fun hHeld=> ?_)
   clear hK K hHeld
   refine wpAnyH_done (by kernel_rfl) ?_ _
   go_wp2_with fail
   go_meet
   exact⟨ga,gb,rfl,rfl,HT1,HT2,HBR⟩
  ·have hba:=below_alloc Wd (.cells #[.int .i64 0,.int .i64 0,.slice none 0 0] 148)
   have HFa:=Lib.hid (show FrBlk (Wd.alloc (.cells #[.int .i64 0,.int .i64 0,.slice none 0 0] 148)) Wd.heap.size 0 0 (.slice none 0 0) from heap_alloc_new Wd _)
   have hg0:=hHeld.size
   have hga:=HFa.out.lt
   go_simp
   refine hK.out _ _ (Below.next hHeld hba) (fun hHeld=> ?_)
   clear hK K hba
   generalize Wd.heap.size=ga at*
   generalize Wd.alloc (.cells #[.int .i64 0,.int .i64 0,.slice none 0 0] 148)=Wa at*
   have hbb:=below_alloc Wa (.cells #[.int .i64 0,.int .i64 0,.slice none 0 0] 148)
   have HFb:=Lib.hid (show FrBlk (Wa.alloc (.cells #[.int .i64 0,.int .i64 0,.slice none 0 0] 148)) Wa.heap.size 0 0 (.slice none 0 0) from heap_alloc_new Wa _)
   have HFa:=Lib.hid (HFa.out.below hbb)
   refine wpAnyH_ready (rs:=[11]) (by kernel_rfl) (by simp) ?_
   refine AllReadyH.cons rfl (fun K hK=> ?_) AllReadyH.nil
   go_simp
   refine hK.out _ _ (Below.next hHeld hbb) (fun hHeld=> ?_)
   clear hK K hbb
   generalize Wa.heap.size=gb at*
   generalize Wa.alloc (.cells #[.int .i64 0,.int .i64 0,.slice none 0 0] 148)=Wb at*
   refine wpAnyH_ready (rs:=[13]) (by kernel_rfl) (by simp) ?_
   refine AllReadyH.cons rfl (fun K hK=> ?_) AllReadyH.nil
   rw [if_pos (by kernel_rfl)]
   refine wp_store_row 148 (.tmp 9) (.tmp 37) rfl gb (frCs (p.f.k:Int) (p.f.s:Int) pv) rfl rfl 148 (frCs 0 0 (.slice none 0 0)) HFb.out frInfo rfl (frCs_all _ _ _ hpv) ?_
   have HS1:=Lib.hid (show FrBlk (Wb.setRow gb (frCs (p.f.k:Int) (p.f.s:Int) pv)) gb (p.f.k:Int) (p.f.s:Int) pv from HFb.out.row)
   have HS2:=Lib.hid (show FrBlk (Wb.setRow gb (frCs (p.f.k:Int) (p.f.s:Int) pv)) ga 0 0 (.slice none 0 0) from(setRow_other _ _ _ _ (by omega)).trans HFa.out)
   have hbr:Below w1.heap.size w1 (Wb.setRow gb (frCs (p.f.k:Int) (p.f.s:Int) pv)):=below_row hHeld (by omega) _
   generalize Wb.setRow gb (frCs (p.f.k:Int) (p.f.s:Int) pv)=Wc at*
   refine hK.out _ _ hbr (fun hHeld=> ?_)
   clear hK K HFa HFb hbr
   refine wpAnyH_ready (rs:=[14]) (by kernel_rfl) (by simp) ?_
   refine AllReadyH.cons rfl (fun K hK=> ?_) AllReadyH.nil
   rw [if_pos (by kernel_rfl)]
   refine wp_store_row 148 (.tmp 10) (.tmp 44) rfl ga (frCs (q.f.k:Int) (q.f.s:Int) qv) rfl rfl 148 (frCs 0 0 (.slice none 0 0)) HS2.out frInfo rfl (frCs_all _ _ _ hqv) ?_
   have HT2:=Lib.hid (show FrBlk (Wc.setRow ga (frCs (q.f.k:Int) (q.f.s:Int) qv)) ga (q.f.k:Int) (q.f.s:Int) qv from HS2.out.row)
   have HT1:=Lib.hid (show FrBlk (Wc.setRow ga (frCs (q.f.k:Int) (q.f.s:Int) qv)) gb (p.f.k:Int) (p.f.s:Int) pv from(setRow_other _ _ _ _ (by omega)).trans HS1.out)
   have HBR:=Lib.hid (show Below w1.heap.size w1 (Wc.setRow ga (frCs (q.f.k:Int) (q.f.s:Int) qv)) from below_row hHeld (by omega) _)
   generalize Wc.setRow ga (frCs (q.f.k:Int) (q.f.s:Int) qv)=We at*
   refine hK.out _ _ HBR.out (fun hHeld=> ?_)
   clear hK K hHeld
   refine wpAnyH_done (by kernel_rfl) ?_ _
   go_wp2_with fail
   go_meet
   exact⟨gb,ga,rfl,rfl,HT1,HT2,HBR⟩
 case rest=>
  obtain⟨g1,g2,rfl,rfl,HF1,HF2,HB2⟩:=hcut
  have HN1:=Lib.hid (bookNum_any p.f pv wc (HPB.out.below HB2.out) (Nat.le_trans HPL.out (by decide)))
  obtain⟨n1,hn1⟩: ∃ n1,n1=numF p.f:=⟨_,rfl⟩
  have HQN:=Lib.hid (fun W (hW:Below w1.heap.size w1 W)=>bookNum_any q.f qv W (HQB.out.below hW) (Nat.le_trans HQL.out (by decide)))
  obtain⟨n2,hn2'⟩: ∃ n2,n2=numF q.f:=⟨_,rfl⟩
  rw [←hn1] at HN1
  rw [←hn2'] at HQN
  have HBD:=Lib.hid (show bookBad p.f q.f (ps.length - 2)↔(n1.2=false∨n2.2=false∨p.f.k≠6∨q.f.k≠7∨q.f.s≠p.f.s∨p.f.s<1∨999999<p.f.s∨n1.1<1∨1099511627776<n1.1∨n2.1≠ps.length - 2) by unfold bookBad;rw [hn1,hn2'])
  have HE3:=Lib.hid (show ¬ bookBad p.f q.f (ps.length - 2)→decBook b=match stsP ((ps.take (ps.length - 1)).drop 1) [] with
   | none=>none
   | some ss=>if bookOk 0 ss then some (p.f.s,n1.1,ss) else none from fun h=>by rw [HE2.out,if_neg h,hn1])
  clear hn1 hn2'
  obtain⟨u1,o1⟩:=n1
  obtain⟨u2,o2⟩:=n2
  dsimp only at HN1 HQN HBD HE3
  go_wp2_with (with_reducible refine wpList_load_fr rfl (.tmp 9) rfl g1 (p.f.k:Int) (p.f.s:Int) pv rfl HF1.out ?_)
  refine HN1.out.mono ?_
  rintro e w3 ⟨rfl,hb3⟩
  have HB3:=Lib.hid (Below.next HB2.out hb3)
  have HF13:=Lib.hid (HF1.out.below hb3)
  have HF23:=Lib.hid (HF2.out.below hb3)
  clear hb3 HN1 HB2 HF1 HF2
  go_wp2_with (with_reducible refine wpList_load_fr rfl (.tmp 10) rfl g2 (q.f.k:Int) (q.f.s:Int) qv rfl HF23.out ?_)
  refine(HQN.out w3 HB3.out).mono ?_
  rintro e w4 ⟨rfl,hb4⟩
  have HB4:=Lib.hid (Below.next HB3.out hb4)
  have HF1:=Lib.hid (HF13.out.below hb4)
  have HF2:=Lib.hid (HF23.out.below hb4)
  have HBW:=Lib.hid (Below.next HB1.out HB4.out)
  clear hb4 HQN HB3 HF13 HF23
  have a0:=HF1.out.c0
  have a1:=HF1.out.c1
  have b0:=HF2.out.c0
  have b1:=HF2.out.c1
  cases o1
  case false=>
   have HD:=Lib.hid (show decBook b=none by rw [HE2.out,if_pos (HBD.out.2 (.inl rfl))])
   go_wp2
   refine bodyPost_ret (v:= .tuple #[.int .i64 0,.int .i64 0,.slice none 0 0,.int .i64 81]) (by simp [results,Tryz.results80,go_sem]) rfl ⟨HBW.out,by rw [HD.out]⟩
  cases o2
  case false=>
   have HD:=Lib.hid (show decBook b=none by rw [HE2.out,if_pos (HBD.out.2 (.inr (.inl rfl)))])
   go_wp2
   refine bodyPost_ret (v:= .tuple #[.int .i64 0,.int .i64 0,.slice none 0 0,.int .i64 81]) (by simp [results,Tryz.results80,go_sem]) rfl ⟨HBW.out,by rw [HD.out]⟩
  have hwm:IntKind.i64.wrap ((ps.length:Int) - 2)=((ps.length - 2:Nat):Int):=by rw [IntKind.wrap_i64];omega
  have hwu:IntKind.u64.wrap ((ps.length - 2:Nat):Int)=((ps.length - 2:Nat):Int):=by rw [IntKind.wrap_u64];omega
  rcases t1:((p.f.k:Int) != 6) with _ | _
  case true=>
   have HD:=Lib.hid (show decBook b=none by rw [HE2.out,if_pos (HBD.out.2 (.inr (.inr (.inl (by simp at t1;omega)))))])
   go_wp2
   refine bodyPost_ret (v:= .tuple #[.int .i64 0,.int .i64 0,.slice none 0 0,.int .i64 81]) (by simp [results,Tryz.results80,go_sem]) rfl ⟨HBW.out,by rw [HD.out]⟩
  rcases t2:((q.f.k:Int) != 7) with _ | _
  case true=>
   have HD:=Lib.hid (show decBook b=none by rw [HE2.out,if_pos (HBD.out.2 (.inr (.inr (.inr (.inl (by simp at t2;omega))))))])
   go_wp2
   refine bodyPost_ret (v:= .tuple #[.int .i64 0,.int .i64 0,.slice none 0 0,.int .i64 81]) (by simp [results,Tryz.results80,go_sem]) rfl ⟨HBW.out,by rw [HD.out]⟩
  rcases t3:((q.f.s:Int) != (p.f.s:Int)) with _ | _
  case true=>
   have HD:=Lib.hid (show decBook b=none by rw [HE2.out,if_pos (HBD.out.2 (.inr (.inr (.inr (.inr (.inl (by simp at t3;omega)))))))])
   go_wp2
   refine bodyPost_ret (v:= .tuple #[.int .i64 0,.int .i64 0,.slice none 0 0,.int .i64 81]) (by simp [results,Tryz.results80,go_sem]) rfl ⟨HBW.out,by rw [HD.out]⟩
  rcases t4:decide ((p.f.s:Int)<1) with _ | _
  case true=>
   have HD:=Lib.hid (show decBook b=none by rw [HE2.out,if_pos (HBD.out.2 (.inr (.inr (.inr (.inr (.inr (.inl (by simp at t4;omega))))))))])
   go_wp2
   refine bodyPost_ret (v:= .tuple #[.int .i64 0,.int .i64 0,.slice none 0 0,.int .i64 81]) (by simp [results,Tryz.results80,go_sem]) rfl ⟨HBW.out,by rw [HD.out]⟩
  rcases t5:decide (999999<(p.f.s:Int)) with _ | _
  case true=>
   have HD:=Lib.hid (show decBook b=none by rw [HE2.out,if_pos (HBD.out.2 (.inr (.inr (.inr (.inr (.inr (.inr (.inl (by simp at t5;omega)))))))))])
   go_wp2
   refine bodyPost_ret (v:= .tuple #[.int .i64 0,.int .i64 0,.slice none 0 0,.int .i64 81]) (by simp [results,Tryz.results80,go_sem]) rfl ⟨HBW.out,by rw [HD.out]⟩
  rcases t6:decide ((u1:Int)<1) with _ | _
  case true=>
   have HD:=Lib.hid (show decBook b=none by rw [HE2.out,if_pos (HBD.out.2 (.inr (.inr (.inr (.inr (.inr (.inr (.inr (.inl (by simp at t6;omega))))))))))])
   go_wp2
   refine bodyPost_ret (v:= .tuple #[.int .i64 0,.int .i64 0,.slice none 0 0,.int .i64 81]) (by simp [results,Tryz.results80,go_sem]) rfl ⟨HBW.out,by rw [HD.out]⟩
  rcases t7:decide (1099511627776<(u1:Int)) with _ | _
  case true=>
   have HD:=Lib.hid (show decBook b=none by rw [HE2.out,if_pos (HBD.out.2 (.inr (.inr (.inr (.inr (.inr (.inr (.inr (.inr (.inl (by simp at t7;omega)))))))))))])
   go_wp2
   refine bodyPost_ret (v:= .tuple #[.int .i64 0,.int .i64 0,.slice none 0 0,.int .i64 81]) (by simp [results,Tryz.results80,go_sem]) rfl ⟨HBW.out,by rw [HD.out]⟩
  rcases t8:((u2:Int) != ((ps.length - 2:Nat):Int)) with _ | _
  case true=>
   have HD:=Lib.hid (show decBook b=none by rw [HE2.out,if_pos (HBD.out.2 (.inr (.inr (.inr (.inr (.inr (.inr (.inr (.inr (.inr (by simp at t8;omega)))))))))))])
   go_wp2
   refine bodyPost_ret (v:= .tuple #[.int .i64 0,.int .i64 0,.slice none 0 0,.int .i64 81]) (by simp [results,Tryz.results80,go_sem]) rfl ⟨HBW.out,by rw [HD.out]⟩
  have HEF:=Lib.hid (show decBook b=match stsP ((ps.take (ps.length - 1)).drop 1) [] with
   | none=>none
   | some ss=>if bookOk 0 ss then some (p.f.s,u1,ss) else none from HE3.out (fun h=>by
    rcases HBD.out.1 h with h | h | h | h | h | h | h | h | h | h
    ·cases h
    ·cases h
    ·simp at t1;omega
    ·simp at t2;omega
    ·simp at t3;omega
    ·simp at t4;omega
    ·simp at t5;omega
    ·simp at t6;omega
    ·simp at t7;omega
    ·simp at t8;omega))
  have hu1:IntKind.i64.wrap (u1:Int)=(u1:Int):=by simp at t7;rw [IntKind.wrap_i64];omega
  have hcut:=cut_pc bb off ps.length cap hn2 hpl
  have hmi: ∀ k,k<ps.length - 2→((ps.take (ps.length - 1)).drop 1)[k]? =ps[k+1]? :=fun k hk=>by
   rw [List.getElem?_drop,List.getElem?_take,if_pos (by omega),Nat.add_comm 1 k]
  have hml:((ps.take (ps.length - 1)).drop 1).length=ps.length - 2:=by rw [List.length_drop,List.length_take];omega
  obtain⟨mid,hmid⟩: ∃ mid,mid=(ps.take (ps.length - 1)).drop 1:=⟨_,rfl⟩
  rw [←hmid] at HEF hmi hml
  have HMI:=Lib.hid (fun(k:Nat) (hk:k<ps.length - 2)=>(show ∃ x,mid[k]? =some x∧ps[k+1]? =some x from⟨ps[k+1],(hmi k hk).trans (List.getElem?_eq_getElem (by omega)),List.getElem?_eq_getElem (by omega)⟩))
  have HML:=Lib.hid hml
  clear hmid hml hmi HE2 HE3 HBD
  go_wp2
  go_loopw [16,109] (fun sv iv wr=> ∃ (k:Nat) (xs:List (St×Value)),k≤ps.length - 2∧iv= .int .i64 (k:Int)∧xs.length=k∧Hid (StsOwn wr w4.heap.size sv xs)∧Hid (∀ x∈xs,x.1.who.length≤200)∧Hid (stsP mid []=stsP (mid.drop k) (xs.map (·.1)))∧Hid (Below w4.heap.size w4 wr)) (fun _ iv _=>ps.length - 2 - (intOf iv).toNat)
  case atStart=>exact⟨0,[],Nat.zero_le _,rfl,rfl,Lib.hid (stsOwn_nil _ _),Lib.hid (fun x hx=>by cases hx),Lib.hid rfl,Lib.hid (Below.refl _ _)⟩
  case round=>
   obtain⟨k,xs,hk,rfl,hxl,HO,HWX,HST,HB⟩:=hrel
   have HOW:=Lib.hid (fun j hj=>own_lt HO.out.1 (k:=j) hj)
   by_cases hlt:k<ps.length - 2
   ·obtain⟨x,hmk,hpk⟩:=HMI.out k hlt
    have q1:(k:Int)<((ps.length - 2:Nat):Int):=by omega
    have hdr:mid.drop k=x::mid.drop (k+1):=by
     have hkl:=getElem?_lt hmk
     rw [List.drop_eq_getElem_cons hkl]
     rw [List.getElem?_eq_getElem hkl] at hmk
     rw [Option.some.inj hmk]
    rw [hdr] at HST
    obtain⟨b2,off2,e2,dv,hxr,hxb⟩:=HHT.out (k+1) x hpk
    simp only [Option.some.injEq,Addr.mk.injEq,and_true] at e2
    obtain⟨rfl,rfl⟩:=e2
    have HXR:=Lib.hid (show wr.rangeAt bb (off+5+k*5) (pcCs x dv).toList by
     have:=range_later (range_later hxr HB4.out) HB.out
     rwa [show off+(k+1)*5=off+5+k*5 by omega] at this)
    have HXL:=Lib.hid (HBL.out x (List.mem_of_getElem? hpk))
    have HXB:=Lib.hid ((hxb.below HB4.out).below HB.out)
    obtain⟨odv,cdv,hsh,_,_⟩:=hxb
    subst hsh
    clear hmk hpk hdr hxr
    have hba:=below_alloc wr (.cells (pcCs x (.slice odv x.f.body.length cdv)) 160)
    have HBX:=Lib.hid (show (wr.alloc (.cells (pcCs x (.slice odv x.f.body.length cdv)) 160)).heap[wr.heap.size]? =some (.cells (pcCs x (.slice odv x.f.body.length cdv)) 160 (0,0)) from heap_alloc_new wr _)
    have HCD:=Lib.hid (canonDec_any x.f.body _ _ (HXB.out.below hba) (Nat.le_trans HXL.out (by decide)))
    have HB5:=Lib.hid (Below.next HB.out hba)
    have HO5:=Lib.hid (HO.out.below hba)
    have HSN:=Lib.hid (@stsP_stop x (mid.drop (k+1)) (xs.map (·.1)))
    have HSG:=Lib.hid (@stsP_go x (mid.drop (k+1)) (xs.map (·.1)))
    have HWD:=Lib.hid (decSt_who x.f.body)
    obtain⟨ds,hds⟩: ∃ ds,ds=decSt x.f.body:=⟨_,rfl⟩
    rw [←hds] at HCD HSN HSG HWD
    have HWR:=Lib.hid HB.out.size
    clear hds hba HB HO
    simp only [pcCs] at HBX HCD HB5 HO5
    obtain⟨s,e1⟩:=ds
    unfold StDP at HCD
    dsimp only at HCD HSN HSG HWD
    go_wp2_with (with_reducible refine wpList_load_pc rfl (.tmp 111) rfl bb (off+5+k*5) x (.slice odv x.f.body.length cdv) rfl HXR.out ?_)
    refine HCD.out.mono ?_
    rintro e w5 ⟨lv,rfl,hol,hb5⟩
    have hbz:=below_alloc w5 (.cells (stCs stNone (.slice none 0 0)) 164)
    have HSZ:=Lib.hid (stBlk_alloc w5 stNone (.slice none 0 0))
    have h1v:lv.oneCell'=true:=by obtain⟨_,_,e,_⟩:=own_shape hol;rw [e];rfl
    have HOL:=Lib.hid hol
    have HB5b:=Lib.hid (Below.next HB5.out hb5)
    have HOS:=Lib.hid (HO5.out.below hb5)
    have HBX5:=Lib.hid ((hb5.block _ (Array.getElem?_eq_some_iff.1 HBX.out).1).trans HBX.out)
    have hzz:=HBX.out
    have hg8:wr.heap.size<w5.heap.size:=by have:=(Array.getElem?_eq_some_iff.1 HBX5.out).1;exact this
    have hsa:(wr.alloc (.cells #[.int .i64 (x.pos:Int),.int .i64 (x.sz:Int),.int .i64 (x.f.k:Int),.int .i64 (x.f.s:Int),.slice odv x.f.body.length cdv] 160)).heap.size=wr.heap.size+1:=World.size_alloc _ _
    rw [hsa] at HOL
    clear hzz hsa hol hb5 HCD HB5 HO5 HBX HXR HXB
    simp only [stCs,stNone] at hbz HSZ
    go_wp2_with (with_reducible refine wpList_store_stW rfl (.tmp 19) (.tmp 118) rfl w5.heap.size ⟨0,0,0,0,0,[],0,0,0,0,0,[]⟩ s (.slice none 0 0) lv rfl rfl HSZ.out h1v ?_)
    intro w6 hw6
    have HS6:=Lib.hid (show StBlk w6 w5.heap.size s lv by rw [hw6.out];exact HSZ.out.row)
    have hb6:Below w5.heap.size w5 w6:=by rw [hw6.out];exact below_row hbz (Nat.le_refl _) _
    have HB6:=Lib.hid (Below.next HB5b.out hb6)
    have HO6:=Lib.hid (HOS.out.below hb6)
    have HL6:=Lib.hid (lnIn_own (A:=fun j=>wr.heap.size≤j∧j<w5.heap.size) HOL.out (fun j h1 h2=>⟨by omega,h2⟩))
    have HL6:=Lib.hid (HL6.out.below hb6)
    have HBX6:=Lib.hid ((hb6.block _ hg8).trans HBX5.out)
    have x2:w6.cell? ⟨wr.heap.size,2,none⟩=some (.int .i64 (x.f.k:Int)):=by simp [World.cell?,HBX6.out]
    have x3:w6.cell? ⟨wr.heap.size,3,none⟩=some (.int .i64 (x.f.s:Int)):=by simp [World.cell?,HBX6.out]
    have s0:=HS6.out.c0
    have hwr:w4.heap.size≤wr.heap.size:=by have:=HWR.out;omega
    have hs6:w5.heap.size<w6.heap.size:=HS6.out.lt
    clear hw6 hb6 hbz HSZ HOL HOS HBX5 HBX6 HB5b
    rcases z1:(e1 != 0) with _ | _
    case true=>
     have HD:=Lib.hid (show decBook b=none by rw [HEF.out,HST.out,HSN.out (.inl (by simpa using z1))])
     go_wp2
     refine bodyPost_ret (v:= .tuple #[.int .i64 0,.int .i64 0,.slice none 0 0,.int .i64 81]) (by simp [results,Tryz.results80,go_sem]) rfl ⟨Below.next HBW.out HB6.out,by rw [HD.out]⟩
    rcases z2:((x.f.k:Int) != 5) with _ | _
    case true=>
     have HD:=Lib.hid (show decBook b=none by rw [HEF.out,HST.out,HSN.out (.inr (.inl (by simp at z2;omega)))])
     go_wp2
     refine bodyPost_ret (v:= .tuple #[.int .i64 0,.int .i64 0,.slice none 0 0,.int .i64 81]) (by simp [results,Tryz.results80,go_sem]) rfl ⟨Below.next HBW.out HB6.out,by rw [HD.out]⟩
    rcases z3:((x.f.s:Int) != s.order) with _ | _
    case true=>
     have HD:=Lib.hid (show decBook b=none by rw [HEF.out,HST.out,HSN.out (.inr (.inr (by simpa using z3)))])
     go_wp2
     refine bodyPost_ret (v:= .tuple #[.int .i64 0,.int .i64 0,.slice none 0 0,.int .i64 81]) (by simp [results,Tryz.results80,go_sem]) rfl ⟨Below.next HBW.out HB6.out,by rw [HD.out]⟩
    have HST2:=Lib.hid (show stsP mid []=stsP (mid.drop (k+1)) ((xs++[(s,lv)]).map (·.1)) by
     rw [HST.out,HSG.out (by
      rintro(h | h | h)
      ·exact h (by simpa using z1)
      ·simp at z2;omega
      ·simp at z3;omega)]
     simp)
    have hk1:IntKind.i64.wrap ((k:Int)+1)=(k:Int)+1:=by rw [IntKind.wrap_i64];omega
    have hll:xs.length+1≤1000000000:=by omega
    have h46:w4.heap.size≤w6.heap.size:=by omega
    clear HSN HSG HST
    go_upto_region 17 with fail
    generalize w5.heap.size=gs at*
    go_wp2_with (first | (with_reducible refine wpList_load_st rfl (.tmp 19) rfl gs s lv rfl HS6.out ?_) | (refine wpList_appSt (p:=s) (dv:=lv) rfl (.tmp 136) (.tmp 138) rfl rfl rfl HO6.out h46 (HL6.out.mono fun j hj=>⟨by omega,by omega,fun e=>by have:=HOW.out j e;omega⟩) hll ?_))
    intro v7 w7 ho7 hb7 _ _
    have HO7:=Lib.hid ho7
    have HB7:=Lib.hid ((HB6.out.mono (Nat.le_refl _)).trans hb7)
    clear ho7 hb7 HO6 HB6 HS6 HL6
    go_wp2
    go_roundw
    case rel=>exact⟨k+1,xs++[(s,lv)],by omega,by go_num,by simp [hxl],HO7,Lib.hid (fun y hy=>by
     rcases List.mem_append.1 hy with hy | hy
     ·exact HWX.out y hy
     ·simp at hy;subst hy;exact HWD.out),HST2,HB7⟩
    case measure=>simp [intOf];omega
   ·obtain rfl:k=ps.length - 2:=by omega
    have HSF:=Lib.hid (show stsP mid []=some (xs.map (·.1)) by rw [HST.out,List.drop_eq_nil_of_le (by rw [HML.out];exact Nat.le_refl _)];rfl)
    have HEG:=Lib.hid (show decBook b=if bookOk 0 (xs.map (·.1)) then some (p.f.s,u1,xs.map (·.1)) else none by rw [HEF.out,HSF.out])
    have HSI:=Lib.hid (HO.out.stsIn (A:=fun j=>w.heap.size≤j) (fun j hj=>Nat.le_trans HBW.out.size hj))
    have HVL:=Lib.hid (bookValid_any (xs.map (·.1)) _ wr HSI.out (fun s hs=>by
     obtain⟨y,hy,rfl⟩:=List.mem_map.1 hs
     exact Nat.le_trans (HWX.out y hy) (by decide)))
    obtain⟨vb,hvb⟩: ∃ vb,vb=bookOk 0 (xs.map (·.1)):=⟨_,rfl⟩
    rw [←hvb] at HEG HVL
    clear hvb HSF HST
    go_wp2_with fail
    refine HVL.out.mono ?_
    rintro e w9 ⟨rfl,hb9⟩
    have HB9:=Lib.hid (Below.next HB.out hb9)
    have HS9:=Lib.hid (HSI.out.below hb9)
    clear hb9
    cases vb
    ·have HD:=Lib.hid (show decBook b=none by rw [HEG.out];rfl)
     go_wp2
     refine bodyPost_ret (v:= .tuple #[.int .i64 0,.int .i64 0,.slice none 0 0,.int .i64 81]) (by simp [results,Tryz.results80,go_sem]) rfl ⟨Below.next HBW.out HB9.out,by rw [HD.out]⟩
    ·have HD:=Lib.hid (show decBook b=some (p.f.s,u1,xs.map (·.1)) by rw [HEG.out,if_pos rfl])
     go_wp2
     refine bodyPost_ret (v:= .tuple #[.int .i64 (p.f.s:Int),.int .i64 (u1:Int),_,.int .i64 0]) (by simp [results,Tryz.results80,go_sem];first | rfl | skip) rfl ⟨Below.next HBW.out HB9.out,by rw [HD.out];exact⟨_,rfl,HS9.out⟩⟩
end Go.Proofs.YtlobohpbgghleaaGreatDoor

namespace Go.Proofs.YtlobohpbgghleaaGreatDoor
open Go.RowKit
def planS (ss:List (List UInt8)):Pl:=⟨true,firstM,ss,22,0⟩
theorem stray_open {d:Disk} (hd:d.down=false) (hn: ∀ f∈d.files,rightName f.name=true) {t:Bool} {m:Man} {n:List UInt8} (h:n∈straysD d t m):openE d n=0∧(doD d (opSize n)).2.2.1=(sizeN d n:Int):=by
 unfold straysD at h
 obtain⟨h1,_⟩:=List.mem_filter.1 h
 obtain⟨f,hf,rfl⟩:=List.mem_map.1 h1
 rcases ha:atF d.files f.name with _ | x
 ·have:=List.find?_eq_none.1 ha f hf
  simp at this
 ·have ho:openE d f.name=0:=by unfold openE;rw [hd,hn f hf,ha];rfl
  refine⟨ho,?_⟩
  rw [sizeO ho ha,sizeN_some ha]
theorem strays_len (d:Disk) (t:Bool) (m:Man):(straysD d t m).length≤d.files.length:=by
 unfold straysD
 refine Nat.le_trans (List.length_filter_le _ _) ?_
 simp
theorem sizesN_snoc (d:Disk) (a:List (List UInt8)) (n:List UInt8):sizesN d (a++[n])=sizesN d a+sizeN d n:=by simp [sizesN]
theorem strays_nodup {d:Disk} (h:Rise d.files) (t:Bool) (m:Man):(straysD d t m).Nodup:=(strays_sub d t m h).1.imp fun h=>bytes_ne h
theorem sizesN_take (d:Disk): ∀ (ss:List (List UInt8)) (k:Nat),sizesN d (ss.take k)≤sizesN d ss
 | [],k=>by simp
 | x::r,0=>by simp [sizesN]
 | x::r,k+1=>by
  have:=sizesN_take d r k
  simp only [sizesN,List.take_succ_cons,List.map_cons,List.sum_cons] at this ⊢
  omega
def FreshP (w:World) (r:Pl×Int) (e:Ending) (w':World):Prop:=
 ∃ sv rv,e= .returned (.tuple #[plV r.1 sv rv,.int .i64 r.2])∧SgIn (fun k=>w.heap.size≤k) w' sv r.1.man.segs∧StIn (fun k=>w.heap.size≤k) w' rv r.1.remove∧sv.oneCell'=true∧rv.oneCell'=true∧Below w.heap.size w w'
theorem stIn_nil (A:Nat→Prop) (w:World):StIn A w (.slice none 0 0) []:=⟨none,0,rfl,Nat.le_refl _,by decide,fun i g hg=>by simp at hg⟩
set_option maxRecDepth 100000 in
set_option maxHeartbeats 8000000 in
theorem freshG_any (w:World) (f m:Nat) (d:Disk) (L:List Slot) (h:FsAt w f m d L) (hdn:d.down=false) (hn:NibTab w):
  Calls Tryz.prog 39 #[.pointer (some ⟨f,0,none⟩)] w (FreshP w (freshD d)):=by
 have HH:=Lib.hid h
 have HDN:=Lib.hid hdn
 have HNB:=Lib.hid hn
 have hrm:=h.ok.room
 have hus:=h.ok.used
 have HSN:=Lib.hid (fun n (hm:n∈straysD d false firstM)=>stray_open hdn h.ok.names hm)
 have HSL:=Lib.hid (strays_len d false firstM)
 have hcn:=h.ok.count
 have HLL:=Lib.hid (show L.length=d.files.length by rw [←h.fil];simp [fils])
 have HSZ:=Lib.hid (sizesN_le (ns:=straysD d false firstM) h.ok.rise (strays_nodup h.ok.rise false firstM))
 have HFD:=Lib.hid (show freshD d=if d.room - (usedF d.files:Int)+(sizesN d (straysD d false firstM):Int)<51∨700<(d.files.length:Int) - ((straysD d false firstM).length:Int)+2 then (planZ,54) else (planS (straysD d false firstM),0) from rfl)
 have HSTR:=Lib.hid (fun W (hb:Below w.heap.size w W) mn sv=>strays_not W f m d L (h.below hb) hdn mn sv)
 have HRF:=Lib.hid (fun(W:World) (hb:Below w.heap.size w W)=>h.below hb)
 have HB0:=Lib.hid (below_alloc w (.cells #[.bool false,.int .i64 0,.int .i64 0,.int .i64 0,.int .i64 0,.int .i64 0,.slice none 0 0,.slice none 0 0,.int .i64 0,.int .i64 0] 34))
 have HR0:=Lib.hid (show PlBlk (w.alloc (.cells #[.bool false,.int .i64 0,.int .i64 0,.int .i64 0,.int .i64 0,.int .i64 0,.slice none 0 0,.slice none 0 0,.int .i64 0,.int .i64 0] 34)) w.heap.size planZ (.slice none 0 0) (.slice none 0 0) from plBlk_alloc w planZ (.slice none 0 0) (.slice none 0 0))
 obtain⟨ss,hss⟩: ∃ ss,ss=straysD d false firstM:=⟨_,rfl⟩
 have hss1: ∀ mn,mn=firstM→straysD d false mn=ss:=fun mn e=>by rw [e,hss]
 have HSTR:=Lib.hid (fun W hb sv=>by have:=HSTR.out W hb firstM sv;rw [hss1 firstM rfl] at this;exact this)
 rw [←hss] at HSN HSL HSZ HFD
 have HFD2:=Lib.hid (show freshD d=if d.room - (usedF d.files:Int)+(sizesN d ss:Int)<51∨700<(d.files.length:Int) - (ss.length:Int)+2 then (planZ,54) else (planS ss,0) from HFD.out)
 clear h hdn hn hss hss1 HFD
 obtain⟨U,hU⟩: ∃ U,U=usedF d.files:=⟨_,rfl⟩
 rw [←hU] at hus HSZ HFD2
 have HUU:=Lib.hid hU
 clear hU
 go_enter Tryz.func39,Tryz.ntmps39
 go_wp2_with fail
 refine(first_any _).mono ?_
 rintro e w1 ⟨sv,rfl,hsg,hone,hb1⟩
 have HB1:=Lib.hid (Below.next HB0.out hb1)
 have HR1:=Lib.hid (HR0.out.below hb1)
 have HSG:=Lib.hid (hsg.mono (A':=fun k=>w.heap.size+1≤k) (fun k hk=>by simp at hk;omega))
 obtain⟨osg,scap,rfl,_,_,_⟩:=hsg
 have HMz:=Lib.hid (mnBlk_alloc w1 zeroM (.slice none 0 0))
 simp only [mnCs,zeroM] at HMz
 clear hb1 HB0 HR0 hone
 go_wp2_with (with_reducible refine wpList_store_mn rfl (.tmp 4) (.tmp 13) rfl w1.heap.size ⟨0,0,0,0,0,[]⟩ firstM (.slice none 0 0) (.slice osg firstM.segs.length scap) rfl rfl HMz.out rfl ?_)
 intro w2 hw2
 have hba:=below_alloc w1 (.cells #[.int .i64 0,.int .i64 0,.int .i64 0,.int .i64 0,.int .i64 0,.slice none 0 0] 31)
 have HM2:=Lib.hid (show MnBlk w2 w1.heap.size firstM (.slice osg firstM.segs.length scap) by rw [hw2.out];exact HMz.out.row)
 have HBW:=Lib.hid (show Below w1.heap.size w1 w2 by rw [hw2.out];exact below_row hba (Nat.le_refl _) _)
 have HB2:=Lib.hid (Below.next HB1.out HBW.out)
 have HR2:=Lib.hid (HR1.out.below HBW.out)
 have HSG2:=Lib.hid (HSG.out.below HBW.out)
 clear hw2 hba HMz HB1 HR1 HSG HBW
 generalize w1.heap.size=b4 at*
 have HHD:=Lib.hid (header_any 1 1 w2 (HNB.out.below HB2.out))
 obtain⟨er,her⟩: ∃ y,y=hdrEnc 1 1:=⟨_,rfl⟩
 have HL:=Lib.hid (show er.1.length=22 by rw [her];exact first_len.1)
 rw [←her] at HHD
 clear her
 go_wp2_with fail
 refine HHD.out.mono ?_
 rintro e w3 ⟨v3,rfl,ho3,hb3⟩
 obtain⟨o3,cap3,rfl,_,_⟩:=own_shape ho3
 rw [HL.out]
 have HM3:=Lib.hid (HM2.out.below hb3)
 have HB3:=Lib.hid (Below.next HB2.out hb3)
 have HR3:=Lib.hid (HR2.out.below hb3)
 have HSG3:=Lib.hid (HSG2.out.below hb3)
 have HNB3:=Lib.hid (HNB.out.below HB3.out)
 clear ho3 hb3 HHD HM2 HB2 HR2 HSG2 HL
 go_upto_region 3 with fail
 go_cut [7] from 18 to 24 (fun p wx=> ∃ g rv,p= .pointer (some ⟨g,0,none⟩)∧Hid (PlBlk wx g (planS ss) (.slice osg firstM.segs.length scap) rv)∧Hid (wx.ownsRow w3.heap.size 9 1 rv ss.length (ss.map encStr))∧Hid (Below w3.heap.size w3 wx))
 case first=>
  refine wp_region_held_drew (S:=fun w'=>Below w3.heap.size w3 w') (by kernel_rfl) (show Below w3.heap.size w3 w3.drew from below_drewN' w3 1) (fun hHeld=> ?_)
  refine tkl 0 b4 0 [.int .i64 1,.int .i64 2,.int .i64 0,.int .i64 0,.int .i64 0,.slice osg firstM.segs.length scap] rfl rfl (fun w' h j v hv=>by rw [Nat.zero_add,(HM3.out.below h).cell];simpa [mnCs,firstM] using hv) Tryz.underlying31 rfl (by rw [mnInfo];rfl) ?_
  simp only [pA,pB,pC,pD]
  refine tk 1 rfl ?v_1 ?hy_1 ?r_1
  case hy_1=>intro w hSw;go_simp;try with_reducible rfl
  simp only [pA,pB,pC,pD]
  refine tk 2 rfl ?v_2 ?hy_2 ?r_2
  case hy_2=>intro w hSw;go_simp;try with_reducible rfl
  simp only [pA,pB,pC,pD]
  refine tk 3 rfl ?v_3 ?hy_3 ?r_3
  case hy_3=>intro w hSw;go_simp;try with_reducible rfl
  simp only [pA,pB,pC,pD]
  refine tkl 4 b4 0 [.int .i64 1,.int .i64 2,.int .i64 0,.int .i64 0,.int .i64 0,.slice osg firstM.segs.length scap] rfl rfl (fun w' h j v hv=>by rw [Nat.zero_add,(HM3.out.below h).cell];simpa [mnCs,firstM] using hv) Tryz.underlying31 rfl (by rw [mnInfo];rfl) ?_
  simp only [pA,pB,pC,pD]
  generalize World.drew _=Wd at*
  refine wpAnyH_ready (rs:=[5,7]) (by kernel_rfl) (by simp) ?_
  refine AllReadyH.cons rfl (fun K hK=> ?_) (AllReadyH.cons rfl (fun K hK=> ?_) AllReadyH.nil)
  ·go_simp
   go_at_call 43
   refine(HSTR.out Wd (Below.next HB3.out hHeld) _).mono ?_
   rintro e w4 ⟨v4,rfl,ho4,hb4⟩
   have HO4:=Lib.hid (own_mono ho4 hHeld.size)
   obtain⟨o4,cap4,rfl,_,_⟩:=own_shape ho4
   have HB4:=Lib.hid (Below.next hHeld hb4)
   clear ho4 hb4 hHeld
   go_wp2_with fail
   refine hK.out _ _ HB4.out (fun hHeld=> ?_)
   clear hK K
   refine tk 6 rfl ?v_4 ?hy_4 ?r_4
   case hy_4=>intro w hSw;go_simp;try with_reducible rfl
   simp only [pA,pB,pC,pD]
   have HBA:=Lib.hid (below_alloc w4 (.cells #[.bool false,.int .i64 0,.int .i64 0,.int .i64 0,.int .i64 0,.int .i64 0,.slice none 0 0,.slice none 0 0,.int .i64 0,.int .i64 0] 34))
   have HB5:=Lib.hid (Below.next HB4.out HBA.out)
   have HGZ:=Lib.hid (show PlBlk (w4.alloc (.cells #[.bool false,.int .i64 0,.int .i64 0,.int .i64 0,.int .i64 0,.int .i64 0,.slice none 0 0,.slice none 0 0,.int .i64 0,.int .i64 0] 34)) w4.heap.size planZ (.slice none 0 0) (.slice none 0 0) from plBlk_alloc w4 planZ (.slice none 0 0) (.slice none 0 0))
   have hgx:w3.heap.size≤w4.heap.size:=HB4.out.size
   refine wpAnyH_ready (rs:=[7]) (by kernel_rfl) (by simp) ?_
   refine AllReadyH.cons rfl (fun K hK=> ?_) AllReadyH.nil
   go_simp
   refine hK.out _ _ HB5.out (fun hHeld=> ?_)
   clear hK K HB4 hHeld
   refine wpAnyH_ready (rs:=[8]) (by kernel_rfl) (by simp) ?_
   refine AllReadyH.cons rfl (fun K hK=> ?_) AllReadyH.nil
   rw [if_pos (by kernel_rfl)]
   refine wp_store_row 34 (.tmp 7) (.tmp 24) rfl w4.heap.size (plCs (planS ss) (.slice osg firstM.segs.length scap) (.slice o4 ss.length cap4)) rfl rfl 34 (plCs planZ (.slice none 0 0) (.slice none 0 0)) HGZ.out plInfo rfl (plCs_all _ _ _ rfl rfl) ?_
   have HG6:=Lib.hid (show PlBlk ((w4.alloc (.cells #[.bool false,.int .i64 0,.int .i64 0,.int .i64 0,.int .i64 0,.int .i64 0,.slice none 0 0,.slice none 0 0,.int .i64 0,.int .i64 0] 34)).setRow w4.heap.size (plCs (planS ss) (.slice osg firstM.segs.length scap) (.slice o4 ss.length cap4))) w4.heap.size (planS ss) (.slice osg firstM.segs.length scap) (.slice o4 ss.length cap4) from HGZ.out.row)
   have HBR:=Lib.hid (show Below w4.heap.size w4 ((w4.alloc (.cells #[.bool false,.int .i64 0,.int .i64 0,.int .i64 0,.int .i64 0,.int .i64 0,.slice none 0 0,.slice none 0 0,.int .i64 0,.int .i64 0] 34)).setRow w4.heap.size (plCs (planS ss) (.slice osg firstM.segs.length scap) (.slice o4 ss.length cap4))) from below_row HBA.out (Nat.le_refl _) _)
   have HB6:=Lib.hid (show Below w3.heap.size w3 ((w4.alloc (.cells #[.bool false,.int .i64 0,.int .i64 0,.int .i64 0,.int .i64 0,.int .i64 0,.slice none 0 0,.slice none 0 0,.int .i64 0,.int .i64 0] 34)).setRow w4.heap.size (plCs (planS ss) (.slice osg firstM.segs.length scap) (.slice o4 ss.length cap4))) from below_row HB5.out hgx _)
   have HO6:=Lib.hid (own_later HO4.out HBR.out)
   refine hK.out _ _ HB6.out (fun hHeld=> ?_)
   clear hK K hHeld HGZ HB5
   refine wpAnyH_done (by kernel_rfl) ?_ _
   generalize (w4.alloc (.cells #[.bool false,.int .i64 0,.int .i64 0,.int .i64 0,.int .i64 0,.int .i64 0,.slice none 0 0,.slice none 0 0,.int .i64 0,.int .i64 0] 34)).setRow w4.heap.size (plCs (planS ss) (.slice osg firstM.segs.length scap) (.slice o4 ss.length cap4))=W6 at*
   go_wp2_with fail
   go_meet
   exact⟨_,_,rfl,HG6,HO6,HB6⟩
  ·have HBz:=Lib.hid (Below.next hHeld (below_alloc Wd (.cells #[.bool false,.int .i64 0,.int .i64 0,.int .i64 0,.int .i64 0,.int .i64 0,.slice none 0 0,.slice none 0 0,.int .i64 0,.int .i64 0] 34)))
   have HGZ:=Lib.hid (show PlBlk (Wd.alloc (.cells #[.bool false,.int .i64 0,.int .i64 0,.int .i64 0,.int .i64 0,.int .i64 0,.slice none 0 0,.slice none 0 0,.int .i64 0,.int .i64 0] 34)) Wd.heap.size planZ (.slice none 0 0) (.slice none 0 0) from plBlk_alloc Wd planZ (.slice none 0 0) (.slice none 0 0))
   have hgx:w3.heap.size≤Wd.heap.size:=hHeld.size
   have hgz:Wd.heap.size<(Wd.alloc (.cells #[.bool false,.int .i64 0,.int .i64 0,.int .i64 0,.int .i64 0,.int .i64 0,.slice none 0 0,.slice none 0 0,.int .i64 0,.int .i64 0] 34)).heap.size:=HGZ.out.lt
   go_simp
   refine hK.out _ _ HBz.out (fun hHeld=> ?_)
   clear hK K
   generalize Wd.heap.size=gx at*
   generalize Wd.alloc (.cells #[.bool false,.int .i64 0,.int .i64 0,.int .i64 0,.int .i64 0,.int .i64 0,.slice none 0 0,.slice none 0 0,.int .i64 0,.int .i64 0] 34)=Wz at*
   refine wpAnyH_ready (rs:=[5]) (by kernel_rfl) (by simp) ?_
   refine AllReadyH.cons rfl (fun K hK=> ?_) AllReadyH.nil
   go_simp
   go_at_call 43
   refine(HSTR.out Wz (Below.next HB3.out hHeld) _).mono ?_
   rintro e W5 ⟨v4,rfl,ho4,hb5⟩
   have HO4:=Lib.hid ho4
   obtain⟨o4,cap4,rfl,_,_⟩:=own_shape ho4
   have HB5:=Lib.hid (Below.next hHeld hb5)
   have HGZ:=Lib.hid (HGZ.out.below hb5)
   have hsz:=hHeld.size
   clear ho4 hb5 hHeld HBz
   go_wp2_with fail
   refine hK.out _ _ HB5.out (fun hHeld=> ?_)
   clear hK K
   refine tk 6 rfl ?v_5 ?hy_5 ?r_5
   case hy_5=>intro w hSw;go_simp;try with_reducible rfl
   simp only [pA,pB,pC,pD]
   refine wpAnyH_ready (rs:=[8]) (by kernel_rfl) (by simp) ?_
   refine AllReadyH.cons rfl (fun K hK=> ?_) AllReadyH.nil
   rw [if_pos (by kernel_rfl)]
   refine wp_store_row 34 (.tmp 7) (.tmp 24) rfl gx (plCs (planS ss) (.slice osg firstM.segs.length scap) (.slice o4 ss.length cap4)) rfl rfl 34 (plCs planZ (.slice none 0 0) (.slice none 0 0)) HGZ.out plInfo rfl (plCs_all _ _ _ rfl rfl) ?_
   have HG6:=Lib.hid (show PlBlk (W5.setRow gx (plCs (planS ss) (.slice osg firstM.segs.length scap) (.slice o4 ss.length cap4))) gx (planS ss) (.slice osg firstM.segs.length scap) (.slice o4 ss.length cap4) from HGZ.out.row)
   have HB6:=Lib.hid (show Below w3.heap.size w3 (W5.setRow gx (plCs (planS ss) (.slice osg firstM.segs.length scap) (.slice o4 ss.length cap4))) from below_row HB5.out hgx _)
   have HO6:=Lib.hid (own_mono (own_setRow HO4.out hgz (plCs (planS ss) (.slice osg firstM.segs.length scap) (.slice o4 ss.length cap4))) hsz)
   refine hK.out _ _ HB6.out (fun hHeld=> ?_)
   clear hK K hHeld HGZ HB5
   generalize W5.setRow gx (plCs (planS ss) (.slice osg firstM.segs.length scap) (.slice o4 ss.length cap4))=W6 at*
   refine wpAnyH_done (by kernel_rfl) ?_ _
   go_wp2_with fail
   go_meet
   exact⟨_,_,rfl,HG6,HO6,HB6⟩
 case rest=>
  obtain⟨gx,rv,rfl,HG6,HO6,HB6⟩:=hcut
  obtain⟨orv,rcap,rfl,_,_⟩:=own_shape HO6.out
  have HBW:=Lib.hid (Below.next HB3.out HB6.out)
  have HFR:=Lib.hid (free_any wc f m d L (HRF.out wc HBW.out))
  rw [←HUU.out] at HFR
  go_wp2_with fail
  refine HFR.out.mono ?_
  rintro e w7 ⟨rfl,hb7⟩
  have HB7:=Lib.hid (Below.next HB6.out hb7)
  have HG7:=Lib.hid (HG6.out.below hb7)
  have HO7:=Lib.hid (own_later HO6.out hb7)
  have r7:=HG7.out.c7
  clear hb7 HFR HG6 HO6 HB6 HBW
  go_wp2
  go_loopw [8,30] (fun rmv iv wr=> ∃ k:Nat,k≤ss.length∧iv= .int .i64 (k:Int)∧rmv= .int .i64 (d.room - (U:Int)+(sizesN d (ss.take k):Int))∧Hid (Below w7.heap.size w7 wr)) (fun _ iv _=>ss.length - (intOf iv).toNat)
  case atStart=>exact⟨0,Nat.zero_le _,rfl,by simp [sizesN],Lib.hid (Below.refl _ _)⟩
  case round=>
   obtain⟨k,hk,rfl,rfl,HB⟩:=hrel
   by_cases hlt:k<ss.length
   ·obtain⟨x,hx,htk,hm⟩:=nth ss k hlt
    have q1:(k:Int)<(ss.length:Int):=by omega
    obtain⟨g7,cap7,e7,_,_,_,_,hcl⟩:=own_get HO7.out (by omega)
    simp only [Value.slice.injEq,true_and] at e7
    obtain⟨rfl,rfl⟩:=e7
    have k1:wr.cell? ⟨g7,k,none⟩=some (.string ⟨x.toArray⟩):=cell_later HB.out (hcl k _ (by rw [List.getElem?_map,hx];rfl))
    have HSI:=Lib.hid (size_any wr f m d L (HRF.out wr (Below.next HB3.out (Below.next HB7.out HB.out))) x)
    rw [(HSN.out x hm).2] at HSI
    generalize (doD d (opSize x)).2.2.2=ex at*
    have HTK:=Lib.hid (show sizesN d (ss.take (k+1))=sizesN d (ss.take k)+sizeN d x by rw [htk,sizesN_snoc])
    have hle:sizesN d (ss.take (k+1))≤U:=Nat.le_trans (sizesN_take d ss (k+1)) HSZ.out
    rw [HTK.out] at hle
    obtain⟨a,ha⟩: ∃ a,a=sizesN d (ss.take k):=⟨_,rfl⟩
    obtain⟨n,hn⟩: ∃ n,n=sizeN d x:=⟨_,rfl⟩
    rw [←ha,←hn] at hle HTK
    rw [←hn] at HSI
    rw [←ha]
    have hw1:IntKind.i64.wrap (d.room - (U:Int)+(a:Int)+(n:Int))=d.room - (U:Int)+((a+n:Nat):Int):=by rw [IntKind.wrap_i64];omega
    have hk1:IntKind.i64.wrap ((k:Int)+1)=(k:Int)+1:=by have:=HSL.out;rw [IntKind.wrap_i64];omega
    clear hx htk hm hcl ha hn hle
    go_wp2_with fail
    refine HSI.out.mono ?_
    rintro e w8 ⟨rfl,rfl⟩
    go_wp2
    go_roundw
    case rel=>exact⟨k+1,by omega,by go_num,by rw [HTK.out];congr 1,HB⟩
    case measure=>simp [intOf];omega
   ·obtain rfl:k=ss.length:=by omega
    rw [List.take_length]
    have HBC:=Lib.hid (Below.next HB7.out HB.out)
    have HG8:=Lib.hid (HG7.out.below HB.out)
    have HR8:=Lib.hid (HR3.out.below HBC.out)
    have HM8:=Lib.hid (HM3.out.below HBC.out)
    have HS8:=Lib.hid (HSG3.out.below HBC.out)
    have HO8:=Lib.hid (stIn_own (A:=fun k=>w3.heap.size≤k) (l:=ss) (own_later HO7.out HB.out) (fun _ h=>h))
    obtain⟨R,hR⟩: ∃ R,R=d.room - (U:Int)+(sizesN d ss:Int):=⟨_,rfl⟩
    rw [←hR] at HFD2
    rw [←hR]
    clear hR
    generalize ss.length=ns at*
    have hw51:IntKind.i64.wrap 51=51:=by decide
    go_wp2_with fail
    refine wp_region_held_drew (S:=fun w'=>Below wr.heap.size wr w') (by kernel_rfl) (show Below wr.heap.size wr wr.drew from below_drewN' wr 1) (fun hHeld=> ?_)
    refine tk 0 rfl ?v_6 ?hy_6 ?r_6
    case hy_6=>intro w hSw;go_simp;try with_reducible rfl
    simp only [pA,pB,pC,pD]
    refine tk 1 rfl ?v_7 ?hy_7 ?r_7
    case hy_7=>intro w hSw;go_simp;try with_reducible rfl
    simp only [pA,pB,pC,pD]
    refine tk 2 rfl ?v_8 ?hy_8 ?r_8
    case hy_8=>intro w hSw;go_simp;try with_reducible rfl
    simp only [pA,pB,pC,pD]
    refine tkl 3 b4 0 [.int .i64 1,.int .i64 2,.int .i64 0,.int .i64 0,.int .i64 0,.slice osg firstM.segs.length scap] rfl rfl (fun w' h j v hv=>by rw [Nat.zero_add,(HM8.out.below h).cell];simpa [mnCs,firstM] using hv) Tryz.underlying31 rfl (by rw [mnInfo];rfl) ?_
    simp only [pA,pB,pC,pD]
    generalize World.drew _=We at*
    refine wpAnyH_ready (rs:=[4]) (by kernel_rfl) (by simp) ?_
    refine AllReadyH.cons rfl (fun K hK=> ?_) AllReadyH.nil
    go_simp
    go_at_call 77
    refine(manSize_any firstM (.slice osg firstM.segs.length scap) We (HS8.out.row.below hHeld) ((HNB3.out.below HBC.out).below hHeld)).mono ?_
    rw [first_len.2]
    rintro e w9 ⟨rfl,hb9⟩
    have HB9:=Lib.hid (Below.next hHeld hb9)
    clear hb9 hHeld
    go_wp2_with fail
    refine hK.out _ _ HB9.out (fun hHeld=> ?_)
    clear hK K
    rcases hr:decide (R<51) with _ | _
    ·have HR1:=Lib.hid (show 51≤R by simpa using hr)
     refine tk 5 rfl ?v_9 ?hy_9 ?r_9
     case hy_9=>intro w hSw;go_simp;try with_reducible rfl
     simp only [pA,pB,pC,pD]
     refine tk 6 rfl ?v_10 ?hy_10 ?r_10
     case hy_10=>intro w hSw;go_simp;try with_reducible rfl
     simp only [pA,pB,pC,pD]
     refine tk 7 rfl ?v_11 ?hy_11 ?r_11
     case hy_11=>intro w hSw;go_simp;try with_reducible rfl
     simp only [pA,pB,pC,pD]
     refine tk 8 rfl ?v_12 ?hy_12 ?r_12
     case hy_12=>intro w hSw;have r7:=(HG8.out.below hSw).c7;go_simp;try with_reducible rfl
     simp only [pA,pB,pC,pD]
     refine tk 11 rfl ?v_13 ?hy_13 ?r_13
     case hy_13=>intro w hSw;have r7:=(HG8.out.below hSw).c7;go_simp;try with_reducible rfl
     simp only [pA,pB,pC,pD]
     refine tk 12 rfl ?v_14 ?hy_14 ?r_14
     case hy_14=>intro w hSw;have r7:=(HG8.out.below hSw).c7;go_simp;try with_reducible rfl
     simp only [pA,pB,pC,pD]
     refine tk 13 rfl ?v_15 ?hy_15 ?r_15
     case hy_15=>intro w hSw;have r7:=(HG8.out.below hSw).c7;go_simp;try with_reducible rfl
     simp only [pA,pB,pC,pD]
     refine wpAnyH_ready (rs:=[9]) (by kernel_rfl) (by simp) ?_
     refine AllReadyH.cons rfl (fun K hK=> ?_) AllReadyH.nil
     go_simp
     go_at_call 78
     refine(list_any w9 f m d L (HRF.out w9 (Below.next HB3.out (Below.next HBC.out HB9.out))) HDN.out).mono ?_
     rintro e w10 ⟨vl,rfl,hol,hb10⟩
     obtain⟨ol,lcap,rfl,_,_⟩:=own_shape hol
     rw [HLL.out]
     have HB10:=Lib.hid (Below.next HB9.out hb10)
     have hnl:=HSL.out
     obtain⟨nf,hnf⟩: ∃ nf,nf=d.files.length:=⟨_,rfl⟩
     rw [←hnf] at hcn HFD2 hnl
     rw [←hnf]
     have hw1:IntKind.i64.wrap ((nf:Int) - (ns:Int))=(nf:Int) - (ns:Int):=by rw [IntKind.wrap_i64];omega
     have hw2:IntKind.i64.wrap ((nf:Int) - (ns:Int)+2)=(nf:Int) - (ns:Int)+2:=by rw [IntKind.wrap_i64];omega
     clear hol hb10 hHeld hnf hnl
     go_wp2_with fail
     refine hK.out _ _ HB10.out (fun hHeld=> ?_)
     clear hK K
     have HG9:=Lib.hid (HG8.out.below HB10.out)
     have HR9:=Lib.hid (HR8.out.below HB10.out)
     have HBE:=Lib.hid (Below.next HB3.out (Below.next HBC.out HB10.out))
     have HS9:=Lib.hid (HS8.out.below HB10.out)
     have HO9:=Lib.hid (HO8.out.below HB10.out)
     rcases h7:decide (700<(nf:Int) - (ns:Int)+2) with _ | _
     ·have HFE:=Lib.hid (show freshD d=(planS ss,0) by rw [HFD2.out,if_neg];rintro(h | h);exact absurd HR1.out (by omega);have:=of_decide_eq_false h7;exact this h)
      refine tk 10 rfl ?v_16 ?hy_16 ?r_16
      case hy_16=>intro w hSw;go_simp;try with_reducible rfl
      simp only [pA,pB,pC,pD]
      refine tk 14 rfl ?v_17 ?hy_17 ?r_17
      case hy_17=>intro w hSw;go_simp;try with_reducible rfl
      simp only [pA,pB,pC,pD]
      refine tk 15 rfl ?v_18 ?hy_18 ?r_18
      case hy_18=>intro w hSw;go_simp;try with_reducible rfl
      simp only [pA,pB,pC,pD]
      refine tk 16 rfl ?v_19 ?hy_19 ?r_19
      case hy_19=>intro w hSw;go_simp;try with_reducible rfl
      simp only [pA,pB,pC,pD]
      refine tk 17 rfl ?v_20 ?hy_20 ?r_20
      case hy_20=>intro w hSw;go_simp;try with_reducible rfl
      simp only [pA,pB,pC,pD]
      refine wpAnyH_done (by kernel_rfl) ?_ _
      clear hHeld
      go_wp2_with (first | (with_reducible refine wpList_load_pl rfl (.tmp 7) rfl gx (planS ss) (.slice osg firstM.segs.length scap) (.slice orv ns rcap) rfl HG9.out ?_) | (with_reducible refine wpList_store_pl rfl (.tmp 2) (.tmp 63) rfl w.heap.size planZ (planS ss) (.slice none 0 0) (.slice none 0 0) (.slice osg firstM.segs.length scap) (.slice orv ns rcap) rfl rfl HR9.out rfl rfl ?_))
      intro w11 hw11
      have HT:=Lib.hid (show Turned (fun k=>k=w.heap.size) w10 w11 by rw [hw11.out];exact run_setRow_turned _ _ _)
      have HP:=Lib.hid (show PlBlk w11 w.heap.size (planS ss) (.slice osg firstM.segs.length scap) (.slice orv ns rcap) by rw [hw11.out];exact HR9.out.row)
      have HB11:=Lib.hid (show Below w.heap.size w w11 by rw [hw11.out];exact below_row HBE.out (Nat.le_refl _) _)
      have hsz3:=HB3.out.size
      have hwl:w.heap.size<w3.heap.size:=HR3.out.lt
      clear hw11
      go_wp2
      refine bodyPost_ret (v:= .tuple #[plV (planS ss) (.slice osg firstM.segs.length scap) (.slice orv ns rcap),.int .i64 0]) (results_pl2 rfl _ _ w.heap.size (planS ss) _ _ _ rfl rfl HP.out) rfl ?_
      rw [HFE.out]
      exact⟨_,_,rfl,(HS9.out.turned HT.out (fun k hk=>by omega)).mono (fun k hk=>by omega),(HO9.out.turned HT.out (fun k hk=>by omega)).mono (fun k hk=>by omega),rfl,rfl,HB11.out⟩
     ·have HFE:=Lib.hid (show freshD d=(planZ,54) by rw [HFD2.out,if_pos];exact .inr (of_decide_eq_true h7))
      refine tk 10 rfl ?v_21 ?hy_21 ?r_21
      case hy_21=>intro w hSw;go_simp;try with_reducible rfl
      simp only [pA,pB,pC,pD]
      refine tk 14 rfl ?v_22 ?hy_22 ?r_22
      case hy_22=>intro w hSw;go_simp;try with_reducible rfl
      simp only [pA,pB,pC,pD]
      refine tk 15 rfl ?v_23 ?hy_23 ?r_23
      case hy_23=>intro w hSw;go_simp;try with_reducible rfl
      simp only [pA,pB,pC,pD]
      refine tk 16 rfl ?v_24 ?hy_24 ?r_24
      case hy_24=>intro w hSw;go_simp;try with_reducible rfl
      simp only [pA,pB,pC,pD]
      refine tk 17 rfl ?v_25 ?hy_25 ?r_25
      case hy_25=>intro w hSw;go_simp;try with_reducible rfl
      simp only [pA,pB,pC,pD]
      refine wpAnyH_done (by kernel_rfl) ?_ _
      clear hHeld
      go_wp2_with (with_reducible refine wpList_store_pl rfl (.tmp 2) (.tmp 62) rfl w.heap.size planZ planZ (.slice none 0 0) (.slice none 0 0) (.slice none 0 0) (.slice none 0 0) rfl rfl HR9.out rfl rfl ?_)
      intro w11 hw11
      have HP:=Lib.hid (show PlBlk w11 w.heap.size planZ (.slice none 0 0) (.slice none 0 0) by rw [hw11.out];exact HR9.out.row)
      have HB11:=Lib.hid (show Below w.heap.size w w11 by rw [hw11.out];exact below_row HBE.out (Nat.le_refl _) _)
      clear hw11
      go_wp2
      refine bodyPost_ret (v:= .tuple #[plV planZ (.slice none 0 0) (.slice none 0 0),.int .i64 54]) (results_pl2 rfl _ _ w.heap.size planZ _ _ _ rfl rfl HP.out) rfl ?_
      rw [HFE.out]
      exact⟨_,_,rfl,sgIn_nil _ _,stIn_nil _ _,rfl,rfl,HB11.out⟩
    ·have HFE:=Lib.hid (show freshD d=(planZ,54) by rw [HFD2.out,if_pos];exact .inl (of_decide_eq_true hr))
     refine tk 5 rfl ?v_26 ?hy_26 ?r_26
     case hy_26=>intro w hSw;go_simp;try with_reducible rfl
     simp only [pA,pB,pC,pD]
     refine tk 6 rfl ?v_27 ?hy_27 ?r_27
     case hy_27=>intro w hSw;go_simp;try with_reducible rfl
     simp only [pA,pB,pC,pD]
     refine tk 7 rfl ?v_28 ?hy_28 ?r_28
     case hy_28=>intro w hSw;go_simp;try with_reducible rfl
     simp only [pA,pB,pC,pD]
     refine tkn 8 rfl ?_
     simp only [pA,pB,pC,pD]
     refine tkn 9 rfl ?_
     simp only [pA,pB,pC,pD]
     refine tkn 10 rfl ?_
     simp only [pA,pB,pC,pD]
     refine tkn 11 rfl ?_
     simp only [pA,pB,pC,pD]
     refine tkn 12 rfl ?_
     simp only [pA,pB,pC,pD]
     refine tkn 13 rfl ?_
     simp only [pA,pB,pC,pD]
     refine tkn 14 rfl ?_
     simp only [pA,pB,pC,pD]
     refine tkn 15 rfl ?_
     simp only [pA,pB,pC,pD]
     refine tkn 16 rfl ?_
     simp only [pA,pB,pC,pD]
     refine tk 17 rfl ?v_29 ?hy_29 ?r_29
     case hy_29=>intro w hSw;go_simp;try with_reducible rfl
     simp only [pA,pB,pC,pD]
     refine wpAnyH_done (by kernel_rfl) ?_ _
     have HRE:=Lib.hid (HR8.out.below HB9.out)
     have HBE:=Lib.hid (Below.next HB3.out (Below.next HBC.out HB9.out))
     clear hHeld
     go_wp2_with (with_reducible refine wpList_store_pl rfl (.tmp 2) (.tmp 62) rfl w.heap.size planZ planZ (.slice none 0 0) (.slice none 0 0) (.slice none 0 0) (.slice none 0 0) rfl rfl HRE.out rfl rfl ?_)
     intro w11 hw11
     have HP:=Lib.hid (show PlBlk w11 w.heap.size planZ (.slice none 0 0) (.slice none 0 0) by rw [hw11.out];exact HRE.out.row)
     have HB11:=Lib.hid (show Below w.heap.size w w11 by rw [hw11.out];exact below_row HBE.out (Nat.le_refl _) _)
     clear hw11
     go_wp2
     refine bodyPost_ret (v:= .tuple #[plV planZ (.slice none 0 0) (.slice none 0 0),.int .i64 54]) (results_pl2 rfl _ _ w.heap.size planZ _ _ _ rfl rfl HP.out) rfl ?_
     rw [HFE.out]
     exact⟨_,_,rfl,sgIn_nil _ _,stIn_nil _ _,rfl,rfl,HB11.out⟩
end Go.Proofs.YtlobohpbgghleaaGreatDoor

namespace Go.Proofs.YtlobohpbgghleaaGreatDoor
open Go.RowKit
def BookLP (w:World) (f m:Nat) (d:Disk) (L:List Slot) (r:(Int×Nat×List St)×Nat) (e:Ending) (w':World):Prop:=
 ∃ v,e= .returned (.tuple #[.int .i64 (r.1.2.1:Int),v,.int .i64 r.1.1])∧StsIn (fun k=>w.heap.size≤k) w' v r.1.2.2∧FsAt w' f m (rdD d r.2) L∧Turned (fun i=>i=f) w w'
end Go.Proofs.YtlobohpbgghleaaGreatDoor

namespace Go.Proofs.YtlobohpbgghleaaGreatDoor
open Go.RowKit
set_option maxRecDepth 100000 in
set_option maxHeartbeats 4000000 in
theorem bookLoad_any (w:World) (f m:Nat) (d:Disk) (L:List Slot) (h:FsAt w f m d L) (hn:NibTab w) (num:Int):
  Calls Tryz.prog 40 #[.pointer (some ⟨f,0,none⟩),.int .i64 num] w (BookLP w f m d L (bookV d num)):=by
 have HF:=Lib.hid h
 have HN:=Lib.hid hn
 have HA:=Lib.hid (show bookV d num=match filD d (bookName num) with
  | none=>((openE d (bookName num),0,[]),0)
  | some x=>match decBook x.data with
   | none=>((81,0,[]),x.data.length)
   | some r=>if (r.1:Int)≠num then ((81,0,[]),x.data.length) else ((0,r.2.1,r.2.2),x.data.length) from rfl)
 obtain⟨nm,hnm⟩: ∃ nm,nm=bookName num:=⟨_,rfl⟩
 have HBN:=Lib.hid (fun W=>Book_any num W)
 rw [←hnm] at HBN HA
 clear h hn hnm
 go_enter Tryz.func40,Tryz.ntmps40
 go_wp2_with fail
 refine(HBN.out _).mono ?_
 rintro e w1 ⟨rfl,hb1⟩
 have HF1:=Lib.hid (HF.out.below hb1)
 have HN1:=Lib.hid (HN.out.below hb1)
 have HB1:=Lib.hid hb1
 have HSI:=Lib.hid (size_any w1 f m d L HF1.out nm)
 clear hb1 HBN HF HN
 by_cases he:openE d nm=0
 ·obtain⟨x,hx,hfx⟩:=filD_some he
  rw [sizeO he hx] at HSI
  have HLX:=Lib.hid (fil_len HF1.out hx)
  have HRD:=Lib.hid (show Calls Tryz.prog 73 #[.pointer (some ⟨f,0,none⟩),.string ⟨nm.toArray⟩,.int .i64 0,.int .i64 (x.data.length:Int)] w1 fun e w'=> ∃ v,e= .returned (.tuple #[v,.int .i64 0])∧OwnB w' w1.heap.size v x.data∧FsAt w' f m (rdD d x.data.length) L∧Turned (fun i=>i=f) w1 w' from by
   have:=read_any w1 f m d L HF1.out nm x he hx 0 x.data.length (by omega)
   rw [List.drop_zero,List.take_length] at this
   exact this)
  have HA2:=Lib.hid (show bookV d num=match decBook x.data with
   | none=>((81,0,[]),x.data.length)
   | some r=>if (r.1:Int)≠num then ((81,0,[]),x.data.length) else ((0,r.2.1,r.2.2),x.data.length) by rw [HA.out,hfx])
  clear HA he hx hfx
  go_wp2_with fail
  refine HSI.out.mono ?_
  rintro e w1' ⟨rfl,rfl⟩
  go_wp2_with fail
  refine HRD.out.mono ?_
  rintro e w2 ⟨v2,rfl,ho2,hf2,ht2⟩
  have HN2:=Lib.hid (HN1.out.turned ht2 (fs_nib HF1.out HN1.out) HN1.out.lt)
  have HT2:=Lib.hid (show Turned (fun i=>i=f) w w2 from(Turned.below HB1.out).trans ht2 fun i hi=> .inl hi)
  have HF2:=Lib.hid hf2
  have HBD:=Lib.hid (bookDec_any x.data v2 w2 ho2.brow HLX.out HN2.out)
  obtain⟨o2,cap2,hsh,_,_⟩:=own_shape ho2
  subst hsh
  obtain⟨r,hr⟩: ∃ r,r=decBook x.data:=⟨_,rfl⟩
  rw [←hr] at HBD HA2
  generalize x.data.length=nx at*
  clear hf2 ho2 ht2 hr HRD HSI HF1 HN1
  unfold BookP at HBD
  rcases r with _ | r
  ·dsimp only at HBD HA2
   go_wp2_with fail
   refine HBD.out.mono ?_
   rintro e w3 ⟨hb3,rfl⟩
   have HF3:=Lib.hid (HF2.out.below hb3)
   have HT3:=Lib.hid (show Turned (fun i=>i=f) w w3 from HT2.out.trans (Turned.below hb3) fun i hi=> .inl hi)
   clear hb3
   go_wp2
   refine bodyPost_ret (v:= .tuple #[.int .i64 0,.slice none 0 0,.int .i64 81]) (by simp [results,Tryz.results40,go_sem]) rfl ?_
   rw [HA2.out]
   exact⟨_,rfl,stsIn_nil _ _,HF3.out,HT3.out⟩
  ·obtain⟨n,sq,ss⟩:=r
   dsimp only at HBD HA2
   go_wp2_with fail
   refine HBD.out.mono ?_
   rintro e w3 ⟨hb3,bv,rfl,hss⟩
   have HF3:=Lib.hid (HF2.out.below hb3)
   have HT3:=Lib.hid (show Turned (fun i=>i=f) w w3 from HT2.out.trans (Turned.below hb3) fun i hi=> .inl hi)
   have HSS:=Lib.hid (hss.mono (A':=fun k=>w.heap.size≤k) (fun k hk=>Nat.le_trans HT2.out.size hk))
   clear hb3 hss
   rcases hq:((n:Int) != num) with _ | _
   ·have HE:=Lib.hid (show bookV d num=((0,sq,ss),nx) by rw [HA2.out,if_neg (by simpa using hq)])
    go_wp2
    refine bodyPost_ret (v:= .tuple #[.int .i64 (sq:Int),bv,.int .i64 0]) (by simp [results,Tryz.results40,go_sem]) rfl ?_
    rw [HE.out]
    exact⟨_,rfl,HSS.out,HF3.out,HT3.out⟩
   ·have HE:=Lib.hid (show bookV d num=((81,0,[]),nx) by rw [HA2.out,if_pos (by simpa using hq)])
    go_wp2
    refine bodyPost_ret (v:= .tuple #[.int .i64 0,.slice none 0 0,.int .i64 81]) (by simp [results,Tryz.results40,go_sem]) rfl ?_
    rw [HE.out]
    exact⟨_,rfl,stsIn_nil _ _,HF3.out,HT3.out⟩
 ·rw [sizeE he] at HSI
  have HE:=Lib.hid (show bookV d num=((openE d nm,0,[]),0) by rw [HA.out,filD_none he])
  have t1:(openE d nm != 0)=true:=by simpa using he
  generalize openE d nm=e0 at*
  clear he HA
  go_wp2_with fail
  refine HSI.out.mono ?_
  rintro e w1' ⟨rfl,rfl⟩
  go_wp2
  refine bodyPost_ret (v:= .tuple #[.int .i64 0,.slice none 0 0,.int .i64 e0]) (by simp [results,Tryz.results40,go_sem]) rfl ?_
  rw [HE.out]
  exact⟨_,rfl,stsIn_nil _ _,by rw [rdD_zero HF1.out.ok];exact HF1.out,Turned.below HB1.out⟩
end Go.Proofs.YtlobohpbgghleaaGreatDoor

namespace Go.Proofs.YtlobohpbgghleaaGreatDoor
open Go.RowKit
theorem run_cut_sg (oa:Option Addr) (len cap n:Nat) (h:n≤cap) (w:World):(Instr.slice 29 (.slice oa len cap) none (some (.int .i64 n)) none).run Tryz.prog w= .ok (.slice oa n cap) w:=by
 rw [run_slice_h (P:=Tryz.prog) w 29 oa len cap (by kernel_rfl) .i64 n (by omega) (by omega)]
 have:(sizeOf (Tryz.prog.elem 29)).run Tryz.prog w= .ok 4 w:=by kernel_rfl
 rw [this]
 show Result.ok (Value.slice (if cap=0 then oa else oa.map (·.add (0*4))) (n - 0) (cap - 0)) w=_
 have e:(if cap=0 then oa else oa.map (·.add (0*4)))=oa:=by
  split
  ·rfl
  ·cases oa with
   | none=>rfl
   | some a=>simp [Addr.add]
 rw [e,Nat.sub_zero,Nat.sub_zero]
theorem cut_sg (oa:Option Addr) (len cap n:Nat) (h:n≤cap) (w:World):(Instr.sliceAt 29 (.slice oa len cap) none (some (.int .i64 n)) none).run Tryz.prog w= .ok (.slice oa n cap) w:=by
 rw [run_sliceAt_slice _ _ _ _ _ _ (by kernel_rfl)]
 exact run_cut_sg oa len cap n h w
def PlanP (w:World) (f m:Nat) (d:Disk) (L:List Slot) (r:(Pl×Int)×Nat) (e:Ending) (w':World):Prop:=
 ∃ sv rv,e= .returned (.tuple #[plV r.1.1 sv rv,.int .i64 r.1.2])∧SgIn (fun k=>w.heap.size≤k) w' sv r.1.1.man.segs∧StIn (fun k=>w.heap.size≤k) w' rv r.1.1.remove∧sv.oneCell'=true∧rv.oneCell'=true∧FsAt w' f m (rdD d r.2) L∧Turned (fun i=>i=f) w w'
structure PlW (w:World) (f m:Nat) (d:Disk) (L:List Slot) (bm:Nat) (mn:Man) (sv:Value) (W:World):Prop where
 res:PlBlk W w.heap.size planZ (.slice none 0 0) (.slice none 0 0)
 man:MnBlk W bm mn sv
 seg:SgIn (fun k=>w.heap.size<k) W sv mn.segs
 fs:FsAt W f m d L
 nib:NibTab W
 top:Turned (fun i=>i=f) w W
 bmf:w.heap.size<bm
theorem PlW.next {w:World} {f m:Nat} {d d':Disk} {L:List Slot} {bm:Nat} {mn:Man} {sv:Value} {W W':World} (h:PlW w f m d L bm mn sv W) (hf:f<w.heap.size) (hF:FsAt W' f m d' L) (ht:Turned (fun i=>i=f) W W'):PlW w f m d' L bm mn sv W':=
 ⟨(ht.block _ h.res.lt (by omega)).trans h.res,(ht.block _ h.man.lt (by have:=h.bmf;omega)).trans h.man,h.seg.turned ht (fun k hk=>by omega),hF,h.nib.turned ht (fs_nib h.fs h.nib) h.nib.lt,h.top.trans ht (fun i hi=> .inl hi),h.bmf⟩
theorem PlW.below {w:World} {f m:Nat} {d:Disk} {L:List Slot} {bm:Nat} {mn:Man} {sv:Value} {W W':World} (h:PlW w f m d L bm mn sv W) (hf:f<w.heap.size) (hb:Below W.heap.size W W'):PlW w f m d L bm mn sv W':=
 h.next hf (h.fs.below hb) (Turned.below hb)
theorem PlW.answer {w:World} {f m:Nat} {d:Disk} {L:List Slot} {bm:Nat} {mn:Man} {sv:Value} {W:World} (h:PlW w f m d L bm mn sv W) (hF: ∀ k,foot f m L k→k<w.heap.size) (cs:Array Value):FsAt (W.setRow w.heap.size cs) f m d L∧Turned (fun i=>i=f) w (W.setRow w.heap.size cs):=by
 have ht:Turned (fun k=>k=w.heap.size) W (W.setRow w.heap.size cs):=run_setRow_turned _ _ _
 exact⟨h.fs.turned ht (fun k hk he=>by have:=hF k hk;omega),h.top.trans ht fun i hi=> .inr (by omega)⟩
theorem takeRun_sub {first most:Nat}: ∀ (xs:List (Nat×Frm)) (c:Nat),∀ _:Nat,∀ y∈takeRun first most c xs,y∈xs
 | [],_,_,_,h=>by simp [takeRun] at h
 | x::r,c,z,y,h=>by
  rw [takeRun] at h
  split at h
  ·cases h
  ·split at h
   ·simp at h;subst h;simp
   ·rcases List.mem_cons.1 h with rfl | h
    ·simp
    ·exact List.mem_cons_of_mem _ (takeRun_sub r (c+1) z y h)
theorem active_cnt (d:Disk) (g:Sg):(activeV d g).1.2.1≤512∧(activeV d g).1.1≤67108864∨ ¬ DiskOk d:=by
 by_cases hok:DiskOk d
 ·left
  unfold activeV
  rcases hf:filD d (segName g.num) with _ | x
  ·exact⟨Nat.zero_le _,Nat.zero_le _⟩
  ·dsimp only
   split
   ·exact⟨Nat.zero_le _,Nat.zero_le _⟩
   ·have h1:=takeRun_len (first:=(hdrOf x.data).2.1) (most:=512) (frs (x.data.drop (begV x.data g).1)) 0 (by decide)
    have h2:=len_le_used (at_name (filD_at hf)).2
    have h3:=hok.used
    have h4:=hok.room
    rename_i hb
    have h5:=hdr_pos (b:=x.data) (g:=g) (by simpa using hb)
    have h6:=lastEnd_le (b:=x.data.drop (begV x.data g).1) (takeRun (hdrOf x.data).2.1 512 0 (frs (x.data.drop (begV x.data g).1))) 0 (Nat.zero_le _) fun y hy=>(frs_mem (takeRun_sub _ _ 0 y hy)).1
    rw [List.length_drop] at h6
    simp only [scanRun,plcs,List.length_map]
    omega
 ·exact .inr hok
theorem planD_err {d:Disk} (h:(loadM d).1.2.2≠0):planD d=((planZ,if (loadM d).1.2.2=80 then 4 else (loadM d).1.2.2),(loadM d).2):=by unfold planD;rw [if_pos h]
theorem planD_new {d:Disk} (h:(loadM d).1.2.2=0) (h2:(loadM d).1.2.1=false):planD d=(freshD d,(loadM d).2):=by unfold planD;rw [if_neg (fun k=>k h),if_pos h2]
theorem planD_man {d:Disk} (h:(loadM d).1.2.2=0) (h2:(loadM d).1.2.1=true):planD d=((planM d (loadM d).1.1).1,(loadM d).2+(planM d (loadM d).1.1).2):=by unfold planD;rw [if_neg (fun k=>k h),if_neg (by rw [h2];decide)]
set_option maxRecDepth 100000 in
set_option maxHeartbeats 8000000 in
theorem plan_any (w:World) (f m:Nat) (d:Disk) (L:List Slot) (h:FsAt w f m d L) (hn:NibTab w):
  Calls Tryz.prog 12 #[.pointer (some ⟨f,0,none⟩)] w (PlanP w f m d L (planD d)):=by
 have hf:=h.hd.lt
 have HLT:=Lib.hid h.lt
 have HB0:=Lib.hid (below_alloc w (.cells (plCs planZ (.slice none 0 0) (.slice none 0 0)) 34))
 have HR0:=Lib.hid (plBlk_alloc w planZ (.slice none 0 0) (.slice none 0 0))
 have HLD:=Lib.hid (manLoad_any _ f m d L (h.below HB0.out) (hn.below HB0.out))
 have HN0:=Lib.hid (hn.below HB0.out)
 have HF0:=Lib.hid (h.below HB0.out)
 have HDR:=Lib.hid (show d.down=false∨(loadM d).1.2.2≠0 from by
  rcases hd:d.down
  ·exact .inl rfl
  ·right
   unfold loadM filD openE
   rw [hd]
   simp)
 have HP1:=Lib.hid (@planD_err d)
 have HP2:=Lib.hid (@planD_new d)
 have HP3:=Lib.hid (@planD_man d)
 have HMK:=Lib.hid (@load_ok d)
 have HLR:=Lib.hid (show (loadM d).2≤67108864 from by
  refine Nat.le_trans (load_read d) ?_
  unfold sizeN
  split
  ·exact Nat.zero_le _
  ·rename_i x hx;exact fil_len h hx)
 obtain⟨ld,hld⟩: ∃ ld,ld=loadM d:=⟨_,rfl⟩
 rw [←hld] at HLD HP1 HP2 HP3 HMK HDR HLR
 simp only [plCs,planZ,zeroM] at HB0 HR0 HLD HN0 HF0
 clear h hn hld
 obtain⟨⟨mn,th,e0⟩,nr⟩:=ld
 unfold LoadMP at HLD
 dsimp only at HLD HP1 HP2 HP3 HMK HDR HLR
 go_enter Tryz.func12,Tryz.ntmps12
 go_wp2_with fail
 refine HLD.out.mono ?_
 rintro e w1 ⟨sv,rfl,hsg,hone,hf1,ht1⟩
 have HSO:=Lib.hid hone
 have hsz0:w.heap.size<(w.alloc (.cells #[.bool false,.int .i64 0,.int .i64 0,.int .i64 0,.int .i64 0,.int .i64 0,.slice none 0 0,.slice none 0 0,.int .i64 0,.int .i64 0] 34)).heap.size:=HR0.out.lt
 have hsz1:=ht1.size
 have HW1:=Lib.hid (show PlBlk w1 w.heap.size planZ (.slice none 0 0) (.slice none 0 0)∧SgIn (fun k=>w.heap.size<k) w1 sv mn.segs∧FsAt w1 f m (rdD d nr) L∧NibTab w1∧Turned (fun i=>i=f) w w1 from
  ⟨(ht1.block _ HR0.out.lt (by omega)).trans HR0.out,hsg.mono (fun k hk=>by omega),hf1,HN0.out.turned ht1 (fs_nib HF0.out HN0.out) HN0.out.lt,(Turned.below HB0.out).trans ht1 fun i hi=> .inl hi⟩)
 have HMz:=Lib.hid (mnBlk_alloc w1 zeroM (.slice none 0 0))
 have hba:=below_alloc w1 (.cells (mnCs zeroM (.slice none 0 0)) 31)
 simp only [mnCs,zeroM] at HMz hba
 clear hsg hone hf1 ht1 HLD HB0 HR0 HN0 HF0
 go_wp2_with (with_reducible refine wpList_store_mn rfl (.tmp 4) (.tmp 20) rfl w1.heap.size ⟨0,0,0,0,0,[]⟩ mn (.slice none 0 0) sv rfl rfl HMz.out HSO.out ?_)
 intro w2 hw2
 have HW2:=Lib.hid (show PlW w f m (rdD d nr) L w1.heap.size mn sv w2 from by
  have hb:Below w1.heap.size w1 w2:=by rw [hw2.out];exact below_row hba (Nat.le_refl _) _
  obtain⟨h1,h2,h3,h4,h5⟩:=HW1.out
  exact⟨h1.below hb,by rw [hw2.out];exact HMz.out.row,h2.below hb,h3.below hb,h4.below hb,h5.trans (Turned.below hb) fun i hi=> .inl hi,by omega⟩)
 clear hw2 hba HMz HW1 hsz0 hsz1
 generalize w1.heap.size=bm at*
 rcases he8:(e0==80) with _ | _
 case true=>
  have HPE:=Lib.hid (show planD d=((planZ,4),nr) by rw [HP1.out (by simp at he8;omega),if_pos (by simpa using he8)])
  go_wp2_with (with_reducible refine wpList_store_pl rfl (.tmp 2) (.tmp 26) rfl w.heap.size planZ planZ (.slice none 0 0) (.slice none 0 0) (.slice none 0 0) (.slice none 0 0) rfl rfl HW2.out.res rfl rfl ?_)
  intro w3 hw3
  have HP:=Lib.hid (show PlBlk w3 w.heap.size planZ (.slice none 0 0) (.slice none 0 0) by rw [hw3.out];exact HW2.out.res.row)
  have HA:=Lib.hid (show FsAt w3 f m (rdD d nr) L∧Turned (fun i=>i=f) w w3 by rw [hw3.out];exact HW2.out.answer HLT.out _)
  clear hw3
  go_wp2
  refine bodyPost_ret (v:= .tuple #[plV planZ (.slice none 0 0) (.slice none 0 0),.int .i64 4]) (results_pl2 rfl _ _ w.heap.size planZ _ _ _ rfl rfl HP.out) rfl ?_
  rw [HPE.out]
  exact⟨_,_,rfl,sgIn_nil _ _,stIn_nil _ _,rfl,rfl,HA.out⟩
 rcases he:(e0 != 0) with _ | _
 case true=>
  have HPE:=Lib.hid (show planD d=((planZ,e0),nr) by rw [HP1.out (by simpa using he),if_neg (by simpa using he8)])
  go_wp2_with (with_reducible refine wpList_store_pl rfl (.tmp 2) (.tmp 30) rfl w.heap.size planZ planZ (.slice none 0 0) (.slice none 0 0) (.slice none 0 0) (.slice none 0 0) rfl rfl HW2.out.res rfl rfl ?_)
  intro w3 hw3
  have HP:=Lib.hid (show PlBlk w3 w.heap.size planZ (.slice none 0 0) (.slice none 0 0) by rw [hw3.out];exact HW2.out.res.row)
  have HA:=Lib.hid (show FsAt w3 f m (rdD d nr) L∧Turned (fun i=>i=f) w w3 by rw [hw3.out];exact HW2.out.answer HLT.out _)
  clear hw3
  go_wp2
  refine bodyPost_ret (v:= .tuple #[plV planZ (.slice none 0 0) (.slice none 0 0),.int .i64 e0]) (results_pl2 rfl _ _ w.heap.size planZ _ _ _ rfl rfl HP.out) rfl ?_
  rw [HPE.out]
  exact⟨_,_,rfl,sgIn_nil _ _,stIn_nil _ _,rfl,rfl,HA.out⟩
 have he0:e0=0:=by simpa using he
 have HDN:=Lib.hid (show d.down=false from by
  rcases HDR.out with h | h
  ·exact h
  ·exact absurd he0 h)
 cases th
 case false=>
  have HPE:=Lib.hid (show planD d=(freshD d,nr) from HP2.out he0 rfl)
  have HFR:=Lib.hid (show Calls Tryz.prog 39 #[.pointer (some ⟨f,0,none⟩)] w2 (FreshP w2 (freshD d)) from freshG_any w2 f m (rdD d nr) L HW2.out.fs HDN.out HW2.out.nib)
  obtain⟨fr,hfr⟩: ∃ fr,fr=freshD d:=⟨_,rfl⟩
  rw [←hfr] at HPE HFR
  obtain⟨fp,fe⟩:=fr
  unfold FreshP at HFR
  clear hfr he0 HP1 HP2 HP3 HMK
  go_wp2_with fail
  refine HFR.out.mono ?_
  rintro e w3 ⟨fsv,frv,rfl,hs3,hr3,ho3,hq3,hb3⟩
  have HW3:=Lib.hid (HW2.out.below hf hb3)
  have HS3:=Lib.hid hs3
  have HR3:=Lib.hid hr3
  have HO3:=Lib.hid ho3
  have HQ3:=Lib.hid hq3
  have hlo:w.heap.size<w2.heap.size:=HW2.out.res.lt
  clear hs3 hr3 ho3 hq3 hb3 HFR HW2
  go_wp2_with (with_reducible refine wpList_store_pl rfl (.tmp 2) (.tmp 37) rfl w.heap.size planZ fp (.slice none 0 0) (.slice none 0 0) fsv frv rfl rfl HW3.out.res HO3.out HQ3.out ?_)
  intro w4 hw4
  have HP:=Lib.hid (show PlBlk w4 w.heap.size fp fsv frv by rw [hw4.out];exact HW3.out.res.row)
  have HA:=Lib.hid (show FsAt w4 f m (rdD d nr) L∧Turned (fun i=>i=f) w w4 by rw [hw4.out];exact HW3.out.answer HLT.out _)
  have HT:=Lib.hid (show Turned (fun k=>k=w.heap.size) w3 w4 by rw [hw4.out];exact run_setRow_turned _ _ _)
  clear hw4
  go_wp2
  refine bodyPost_ret (v:= .tuple #[plV fp fsv frv,.int .i64 fe]) (results_pl2 rfl _ _ w.heap.size fp _ _ _ rfl rfl HP.out) rfl ?_
  rw [HPE.out]
  exact⟨_,_,rfl,(HS3.out.turned HT.out (fun k hk=>by omega)).mono (fun k hk=>by omega),(HR3.out.turned HT.out (fun k hk=>by omega)).mono (fun k hk=>by omega),HO3.out,HQ3.out,HA.out⟩
 case true=>
  have hmk:=(HMK.out rfl).1
  have HMF:=Lib.hid (manFine hmk)
  have HPE:=Lib.hid (show planD d=((planM d mn).1,nr+(planM d mn).2) from HP3.out he0 rfl)
  clear he0 HP1 HP2 HP3 HMK hmk
  have hlr:=HLR.out
  have s3:=HW2.out.man.c3
  go_upto_if 41 with fail
  go_cut [] from 39 to 58 (fun wx=>Hid (PlW w f m (rdD d (nr+(snapV d mn).2)) L bm mn sv wx)∧Hid ((snapV d mn).1=true)∧Hid ((snapV d mn).2≤67108864))
  case first=>
   rcases hsn:decide (0<mn.snap) with _ | _
   ·have HSV:=Lib.hid (show snapV d mn=(true,0) by unfold snapV;rw [if_neg (by simpa using hsn)])
    go_wp2_with fail
    go_meet
    exact⟨Lib.hid (by rw [HSV.out];exact HW2.out),Lib.hid (by rw [HSV.out]),Lib.hid (by rw [HSV.out];decide)⟩
   ·have HSV:=Lib.hid (show snapV d mn=(decide ((bookV d mn.snap).1.1=0)&&decide (((bookV d mn.snap).1.2.1:Int)=mn.snapSeq),(bookV d mn.snap).2) by unfold snapV;rw [if_pos (of_decide_eq_true hsn)])
    have HBK:=Lib.hid (show Calls Tryz.prog 40 #[.pointer (some ⟨f,0,none⟩),.int .i64 mn.snap] w2 (BookLP w2 f m (rdD d nr) L (bookV d mn.snap)) from bookLoad_any w2 f m (rdD d nr) L HW2.out.fs HW2.out.nib mn.snap)
    have HBR:=Lib.hid (show (bookV d mn.snap).2≤67108864 from by
     refine Nat.le_trans (book_read d mn.snap) ?_
     unfold sizeN
     split
     ·exact Nat.zero_le _
     ·rename_i x hx;exact fil_len HW2.out.fs hx)
    obtain⟨bk,hbk⟩: ∃ bk,bk=bookV d mn.snap:=⟨_,rfl⟩
    rw [←hbk] at HSV HBK HBR
    obtain⟨⟨e1,sq,ss⟩,n1⟩:=bk
    unfold BookLP at HBK
    dsimp only at HSV HBK HBR
    clear hbk
    go_wp2_with fail
    refine HBK.out.mono ?_
    rintro e w3 ⟨bv,rfl,_,hf3,ht3⟩
    have HW3:=Lib.hid (HW2.out.next hf (by rw [rdD_rdD] at hf3;exact hf3) ht3)
    have t4:=HW3.out.man.c4
    clear hf3 ht3 HBK HW2 s3
    rcases he1:(e1 != 0) with _ | _
    ·rcases hsq:((sq:Int) != mn.snapSeq) with _ | _
     ·have HSW:=Lib.hid (show snapV d mn=(true,n1) by rw [HSV.out,decide_eq_true (by simpa using he1),decide_eq_true (by simpa using hsq)];rfl)
      go_wp2_with fail
      go_meet
      exact⟨Lib.hid (by rw [HSW.out];exact HW3.out),Lib.hid (by rw [HSW.out]),Lib.hid (by rw [HSW.out];exact HBR.out)⟩
     ·have HSW:=Lib.hid (show snapV d mn=(false,n1) by rw [HSV.out,decide_eq_true (by simpa using he1),decide_eq_false (by simpa using hsq)];rfl)
      have HPE:=Lib.hid (show planD d=((planZ,4),nr+n1) by rw [HPE.out];unfold planM;rw [HSW.out,if_pos rfl])
      go_wp2_with (with_reducible refine wpList_store_pl rfl (.tmp 2) (.tmp 58) rfl w.heap.size planZ planZ (.slice none 0 0) (.slice none 0 0) (.slice none 0 0) (.slice none 0 0) rfl rfl HW3.out.res rfl rfl ?_)
      intro w9 hw9
      have HP:=Lib.hid (show PlBlk w9 w.heap.size planZ (.slice none 0 0) (.slice none 0 0) by rw [hw9.out];exact HW3.out.res.row)
      have HA:=Lib.hid (show FsAt w9 f m (rdD d (nr+n1)) L∧Turned (fun i=>i=f) w w9 by rw [hw9.out];exact HW3.out.answer HLT.out _)
      clear hw9
      go_wp2
      refine bodyPost_ret (v:= .tuple #[plV planZ (.slice none 0 0) (.slice none 0 0),.int .i64 4]) (results_pl2 rfl _ _ w.heap.size planZ _ _ _ rfl rfl HP.out) rfl ?_
      rw [HPE.out]
      exact⟨_,_,rfl,sgIn_nil _ _,stIn_nil _ _,rfl,rfl,HA.out⟩
    ·have HSW:=Lib.hid (show snapV d mn=(false,n1) by rw [HSV.out,decide_eq_false (by simpa using he1)];rfl)
     have HPE:=Lib.hid (show planD d=((planZ,4),nr+n1) by rw [HPE.out];unfold planM;rw [HSW.out,if_pos rfl])
     go_wp2_with (with_reducible refine wpList_store_pl rfl (.tmp 2) (.tmp 58) rfl w.heap.size planZ planZ (.slice none 0 0) (.slice none 0 0) (.slice none 0 0) (.slice none 0 0) rfl rfl HW3.out.res rfl rfl ?_)
     intro w9 hw9
     have HP:=Lib.hid (show PlBlk w9 w.heap.size planZ (.slice none 0 0) (.slice none 0 0) by rw [hw9.out];exact HW3.out.res.row)
     have HA:=Lib.hid (show FsAt w9 f m (rdD d (nr+n1)) L∧Turned (fun i=>i=f) w w9 by rw [hw9.out];exact HW3.out.answer HLT.out _)
     clear hw9
     go_wp2
     refine bodyPost_ret (v:= .tuple #[plV planZ (.slice none 0 0) (.slice none 0 0),.int .i64 4]) (results_pl2 rfl _ _ w.heap.size planZ _ _ _ rfl rfl HP.out) rfl ?_
     rw [HPE.out]
     exact⟨_,_,rfl,sgIn_nil _ _,stIn_nil _ _,rfl,rfl,HA.out⟩
  case rest=>
   obtain⟨HW3,HSV,HSR⟩:=hcut
   obtain⟨hlast,hlmem⟩:=last_segs HMF.out
   have HPM:=Lib.hid (show (planM d mn)=if (sealsV d mn.segs.dropLast).1=false then ((planZ,4),(snapV d mn).2+(sealsV d mn.segs.dropLast).2)
    else if (activeV d (lastSg mn)).1.2.2=false∨(lastSg mn).first - 1+((activeV d (lastSg mn)).1.2.1:Int)<mn.snapSeq then ((planZ,4),(snapV d mn).2+(sealsV d mn.segs.dropLast).2+(activeV d (lastSg mn)).2)
    else ((⟨false,mn,straysD d true mn,((activeV d (lastSg mn)).1.1:Int),(lastSg mn).first - 1+((activeV d (lastSg mn)).1.2.1:Int)⟩,0),(snapV d mn).2+(sealsV d mn.segs.dropLast).2+(activeV d (lastSg mn)).2) by unfold planM;rw [if_neg (by rw [HSV.out];decide)])
   obtain⟨ns,hns⟩: ∃ ns,ns=(snapV d mn).2:=⟨_,rfl⟩
   rw [←hns] at HW3 HSR HPM
   obtain⟨dl,hdl⟩: ∃ dl,dl=mn.segs.dropLast:=⟨_,rfl⟩
   obtain⟨lg,hlg⟩: ∃ lg,lg=lastSg mn:=⟨_,rfl⟩
   have HSG:=Lib.hid HMF.out.seg
   have hnx:=HMF.out.next
   have hlen:=HMF.out.len
   have hdk: ∀ (k:Nat) g,dl[k]? =some g→mn.segs[k]? =some g∧g∈mn.segs:=fun k g hg=>by
    have h1:mn.segs[k]? =some g:=by rw [hlast,←hdl,List.getElem?_append_left (getElem?_lt hg)];exact hg
    exact⟨h1,List.mem_of_getElem? h1⟩
   have hlk:mn.segs[dl.length]? =some lg:=by rw [hlast,←hdl,←hlg];simp
   have hll:mn.segs.length=dl.length+1:=by rw [hlast,←hdl];simp
   rw [←hdl,←hlg] at HPM
   rw [←hlg] at hlmem
   have HDK:=Lib.hid hdk
   have HLK:=Lib.hid hlk
   have HLM:=Lib.hid hlmem
   clear hlast hns hdl hlg hdk hlk hlmem HSV s3 HW2
   obtain⟨osg,scap,hsh,hl1,hl2,_⟩:=HW3.out.seg
   have s5:=HW3.out.man.c5
   rw [hsh] at s5
   rw [hll] at s5 hl1
   have hw1:IntKind.i64.wrap (((dl.length+1:Nat):Int) - 1)=(dl.length:Int):=by rw [IntKind.wrap_i64];omega
   have hcut:=cut_sg osg (dl.length+1) scap dl.length (by omega)
   have HHAT:=Lib.hid (fun(W:World) (hW:SgIn (fun k=>w.heap.size<k) W sv mn.segs) (i:Nat) g (hg:mn.segs[i]? =some g)=>(show ∃ b off,osg=some ⟨b,off,none⟩∧W.rangeAt b (off+i*4) (sgCs g).toList from by
    obtain⟨o1,c1,e1,_,_,h1⟩:=hW
    rw [hsh] at e1
    simp only [Value.slice.injEq,true_and] at e1
    obtain⟨rfl,rfl⟩:=e1
    obtain⟨b,off,e2,_,h2⟩:=h1 i g hg
    exact⟨b,off,e2,h2⟩))
   have HSH:=Lib.hid hsh
   have HLL:=Lib.hid hll
   have hdn:dl.length≤256:=by omega
   clear hsh hll
   go_wp2
   go_loopw [68] (fun iv wr=> ∃ (k n2:Nat),k≤dl.length∧iv= .int .i64 (k:Int)∧Hid (PlW w f m (rdD d (nr+(ns+n2))) L bm mn sv wr)∧Hid (sealsV d dl=((sealsV d (dl.drop k)).1,n2+(sealsV d (dl.drop k)).2))∧Hid (n2≤k*134217728)) (fun iv _=>dl.length - (intOf iv).toNat)
   case atStart=>exact⟨0,0,Nat.zero_le _,rfl,HW3,Lib.hid (by simp),Lib.hid (Nat.zero_le _)⟩
   case round=>
    obtain⟨k,n2,hk,rfl,HW,HSL,HNN⟩:=hrel
    clear HW3 s5
    have hnn:=HNN.out
    have hns:=HSR.out
    by_cases hlt:k<dl.length
    ·have hgk:dl[k]? =some dl[k]:=List.getElem?_eq_getElem hlt
     obtain⟨g,hg⟩: ∃ g,g=dl[k]:=⟨_,rfl⟩
     rw [←hg] at hgk
     have hdr:dl.drop k=g::dl.drop (k+1):=by rw [List.drop_eq_getElem_cons hlt,←hg]
     obtain⟨hgm,hgs⟩:=HDK.out k g hgk
     rw [hdr,sealsV] at HSL
     obtain⟨b,off,rfl,hce⟩:=HHAT.out wr HW.out.seg k g hgm
     have q1:(k:Int)<(dl.length:Int):=by omega
     have HCE:=Lib.hid hce
     have hft:=(HSG.out g hgs).2.2.2.2.2.2.1
     have HSBR:=Lib.hid (show (sealedV d g).2≤134217728 from by
      refine Nat.le_trans (sealed_read d g) ?_
      unfold sizeN
      split
      ·omega
      ·rename_i x hx;have:x.data.length≤67108864:=fil_len HW.out.fs hx;omega)
     have HBA:=Lib.hid (below_alloc wr (.cells (sgCs g) 46))
     have HBK:=Lib.hid (show SgBlk (wr.alloc (.cells (sgCs g) 46)) wr.heap.size g from heap_alloc_new wr _)
     have HWA:=Lib.hid (HW.out.below hf HBA.out)
     have HSE:=Lib.hid (show Calls Tryz.prog 41 #[.pointer (some ⟨f,0,none⟩),sgV g] (wr.alloc (.cells (sgCs g) 46)) fun e w'=>e= .returned (.bool (sealedV d g).1)∧FsAt w' f m (rdD (rdD d (nr+(ns+n2))) (sealedV d g).2) L∧Turned (fun i=>i=f) (wr.alloc (.cells (sgCs g) 46)) w' from
      sealed_any _ f m (rdD d (nr+(ns+n2))) L HWA.out.fs HWA.out.nib g hft)
     obtain⟨sr,hsr⟩: ∃ sr,sr=sealedV d g:=⟨_,rfl⟩
     rw [←hsr] at HSE HSBR HSL
     obtain⟨sb,sn⟩:=sr
     dsimp only at HSE HSBR HSL
     have hk1:IntKind.i64.wrap ((k:Int)+1)=(k:Int)+1:=by rw [IntKind.wrap_i64];omega
     clear hgk hg hdr hgm hgs hce hsr hft
     simp only [sgCs] at HBA HBK HWA HSE
     go_wp2_with (first | (with_reducible refine wpList_load_sg rfl (.tmp 70) rfl b (off+k*4) g rfl HCE.out ?_) | (with_reducible refine wpList_load_sg rfl (.tmp 12) rfl wr.heap.size 0 g rfl HBK.out.range ?_))
     refine HSE.out.mono ?_
     rintro e w5 ⟨rfl,hf5,ht5⟩
     have HW5:=Lib.hid (HWA.out.next hf (show FsAt w5 f m (rdD d (nr+(ns+(n2+sn)))) L by rw [rdD_rdD] at hf5;rw [show nr+(ns+(n2+sn))=nr+(ns+n2)+sn by omega];exact hf5) ht5)
     clear hf5 ht5 HSE HWA HBK HBA HCE HW
     cases sb
     ·have HSF:=Lib.hid (show sealsV d dl=(false,n2+sn) by rw [HSL.out,if_neg (by decide)])
      have HPE:=Lib.hid (show planD d=((planZ,4),nr+(ns+(n2+sn))) by rw [HPE.out,HPM.out,HSF.out,if_pos rfl])
      go_wp2_with (with_reducible refine wpList_store_pl rfl (.tmp 2) (.tmp 76) rfl w.heap.size planZ planZ (.slice none 0 0) (.slice none 0 0) (.slice none 0 0) (.slice none 0 0) rfl rfl HW5.out.res rfl rfl ?_)
      intro w9 hw9
      have HP:=Lib.hid (show PlBlk w9 w.heap.size planZ (.slice none 0 0) (.slice none 0 0) by rw [hw9.out];exact HW5.out.res.row)
      have HA:=Lib.hid (show FsAt w9 f m (rdD d (nr+(ns+(n2+sn)))) L∧Turned (fun i=>i=f) w w9 by rw [hw9.out];exact HW5.out.answer HLT.out _)
      clear hw9
      go_wp2
      refine bodyPost_ret (v:= .tuple #[plV planZ (.slice none 0 0) (.slice none 0 0),.int .i64 4]) (results_pl2 rfl _ _ w.heap.size planZ _ _ _ rfl rfl HP.out) rfl ?_
      rw [HPE.out]
      exact⟨_,_,rfl,sgIn_nil _ _,stIn_nil _ _,rfl,rfl,HA.out⟩
     ·have hsb:=HSBR.out
      go_wp2
      go_roundw
      case rel=>exact⟨k+1,n2+sn,by omega,by go_num,HW5,Lib.hid (by rw [HSL.out];simp [Nat.add_assoc]),Lib.hid (by omega)⟩
      case measure=>simp [intOf];omega
    ·obtain rfl:k=dl.length:=by omega
     have HSF:=Lib.hid (show sealsV d dl=(true,n2) by rw [HSL.out,List.drop_length];rfl)
     have HPM:=Lib.hid (show (planM d mn)=if (activeV d lg).1.2.2=false∨lg.first - 1+((activeV d lg).1.2.1:Int)<mn.snapSeq then ((planZ,4),ns+n2+(activeV d lg).2)
      else ((⟨false,mn,straysD d true mn,((activeV d lg).1.1:Int),lg.first - 1+((activeV d lg).1.2.1:Int)⟩,0),ns+n2+(activeV d lg).2) by rw [HPM.out,HSF.out,if_neg (by simp)])
     have HAC:=Lib.hid (show Calls Tryz.prog 42 #[.pointer (some ⟨f,0,none⟩),sgV lg] wr fun e w'=>e= .returned (.tuple #[.int .i64 ((activeV d lg).1.1:Int),.int .i64 ((activeV d lg).1.2.1:Int),.bool (activeV d lg).1.2.2])∧FsAt w' f m (rdD (rdD d (nr+(ns+n2))) (activeV d lg).2) L∧Turned (fun i=>i=f) wr w' from
      active_any wr f m (rdD d (nr+(ns+n2))) L HW.out.fs HW.out.nib lg)
     have HCN:=Lib.hid (show (activeV d lg).1.2.1≤512∧(activeV d lg).1.1≤67108864 from(active_cnt (rdD d (nr+(ns+n2))) lg).resolve_right fun h=>h HW.out.fs.ok)
     obtain⟨ar,har⟩: ∃ ar,ar=activeV d lg:=⟨_,rfl⟩
     rw [←har] at HPM HAC HCN
     obtain⟨⟨cu,cn,ok⟩,na⟩:=ar
     dsimp only at HPM HAC HCN
     obtain⟨b,off,rfl,hce⟩:=HHAT.out wr HW.out.seg dl.length lg HLK.out
     have HCE:=Lib.hid hce
     have s5:=HW.out.man.c5
     rw [HSH.out,HLL.out] at s5
     have q2:(dl.length:Int)<((dl.length+1:Nat):Int):=by omega
     clear har hce HSL HNN hnn hcut
     go_wp2_with (with_reducible refine wpList_load_sg rfl (.tmp 83) rfl b (off+dl.length*4) lg rfl HCE.out ?_)
     with_reducible refine HAC.out.mono ?_
     rintro e w6 ⟨rfl,hf6,ht6⟩
     have HW6:=Lib.hid (HW.out.next hf (show FsAt w6 f m (rdD d (nr+(ns+n2+na))) L by rw [rdD_rdD] at hf6;rw [show nr+(ns+n2+na)=nr+(ns+n2)+na by omega];exact hf6) ht6)
     obtain⟨b',off',e',hce⟩:=HHAT.out w6 HW6.out.seg dl.length lg HLK.out
     simp only [Option.some.injEq,Addr.mk.injEq,and_true] at e'
     obtain⟨rfl,rfl⟩:=e'
     have f1:w6.cell? ⟨b,off+dl.length*4+1,none⟩=some (.int .i64 lg.first):=hce 1 _ rfl
     have s6:=HW6.out.man.c5
     rw [HSH.out,HLL.out] at s6
     have s7:=HW6.out.man.c4
     have hlb:=HSG.out lg HLM.out
     have hcn:=HCN.out
     have hw2:IntKind.i64.wrap (lg.first - 1)=lg.first - 1:=by rw [IntKind.wrap_i64];omega
     have hw3:IntKind.i64.wrap (lg.first - 1+(cn:Int))=lg.first - 1+(cn:Int):=by rw [IntKind.wrap_i64];omega
     clear hf6 ht6 hce s5 HAC HW HCE hcn hlb
     cases ok
     ·have HPE:=Lib.hid (show planD d=((planZ,4),nr+(ns+n2+na)) by rw [HPE.out,HPM.out,if_pos (.inl rfl)])
      go_wp2_with (with_reducible refine wpList_store_pl rfl (.tmp 2) (.tmp 106) rfl w.heap.size planZ planZ (.slice none 0 0) (.slice none 0 0) (.slice none 0 0) (.slice none 0 0) rfl rfl HW6.out.res rfl rfl ?_)
      intro w9 hw9
      have HP:=Lib.hid (show PlBlk w9 w.heap.size planZ (.slice none 0 0) (.slice none 0 0) by rw [hw9.out];exact HW6.out.res.row)
      have HA:=Lib.hid (show FsAt w9 f m (rdD d (nr+(ns+n2+na))) L∧Turned (fun i=>i=f) w w9 by rw [hw9.out];exact HW6.out.answer HLT.out _)
      clear hw9
      go_wp2
      refine bodyPost_ret (v:= .tuple #[plV planZ (.slice none 0 0) (.slice none 0 0),.int .i64 4]) (results_pl2 rfl _ _ w.heap.size planZ _ _ _ rfl rfl HP.out) rfl ?_
      rw [HPE.out]
      exact⟨_,_,rfl,sgIn_nil _ _,stIn_nil _ _,rfl,rfl,HA.out⟩
     rcases hls:decide (lg.first - 1+(cn:Int)<mn.snapSeq) with _ | _
     case true=>
      have HPE:=Lib.hid (show planD d=((planZ,4),nr+(ns+n2+na)) by rw [HPE.out,HPM.out,if_pos (.inr (of_decide_eq_true hls))])
      go_wp2_with (with_reducible refine wpList_store_pl rfl (.tmp 2) (.tmp 106) rfl w.heap.size planZ planZ (.slice none 0 0) (.slice none 0 0) (.slice none 0 0) (.slice none 0 0) rfl rfl HW6.out.res rfl rfl ?_)
      intro w9 hw9
      have HP:=Lib.hid (show PlBlk w9 w.heap.size planZ (.slice none 0 0) (.slice none 0 0) by rw [hw9.out];exact HW6.out.res.row)
      have HA:=Lib.hid (show FsAt w9 f m (rdD d (nr+(ns+n2+na))) L∧Turned (fun i=>i=f) w w9 by rw [hw9.out];exact HW6.out.answer HLT.out _)
      clear hw9
      go_wp2
      refine bodyPost_ret (v:= .tuple #[plV planZ (.slice none 0 0) (.slice none 0 0),.int .i64 4]) (results_pl2 rfl _ _ w.heap.size planZ _ _ _ rfl rfl HP.out) rfl ?_
      rw [HPE.out]
      exact⟨_,_,rfl,sgIn_nil _ _,stIn_nil _ _,rfl,rfl,HA.out⟩
     have HPE:=Lib.hid (show planD d=((⟨false,mn,straysD d true mn,(cu:Int),lg.first - 1+(cn:Int)⟩,0),nr+(ns+n2+na)) by rw [HPE.out,HPM.out,if_neg];rintro(h | h);cases h;exact of_decide_eq_false hls h)
     have hbm:=HW6.out.bmf
     obtain rfl:=HSH.out
     go_wp2_with fail
     refine wp_region_held_drew (S:=fun w'=>Turned (fun k=>k=w.heap.size) w6 w') (by kernel_rfl) (Turned.below (below_drewN' w6 1)) (fun hHeld=> ?_)
     refine tkl 0 bm 0 [.int .i64 mn.gen,.int .i64 mn.next,.int .i64 mn.floor,.int .i64 mn.snap,.int .i64 mn.snapSeq,.slice (some ⟨b,off,none⟩) mn.segs.length scap] rfl rfl (fun w' h j v hv=>by rw [Nat.zero_add];exact h.cell (by rw [HW6.out.man.cell];simpa [mnCs] using hv) (by simp only;omega)) Tryz.underlying31 rfl (by rw [mnInfo];rfl) ?_
     simp only [pA,pB,pC,pD]
     refine tk 1 rfl ?v_1 ?hy_1 ?r_1
     case hy_1=>intro w hSw;go_simp;try with_reducible rfl
     simp only [pA,pB,pC,pD]
     refine tkl 2 bm 0 [.int .i64 mn.gen,.int .i64 mn.next,.int .i64 mn.floor,.int .i64 mn.snap,.int .i64 mn.snapSeq,.slice (some ⟨b,off,none⟩) mn.segs.length scap] rfl rfl (fun w' h j v hv=>by rw [Nat.zero_add];exact h.cell (by rw [HW6.out.man.cell];simpa [mnCs] using hv) (by simp only;omega)) Tryz.underlying31 rfl (by rw [mnInfo];rfl) ?_
     simp only [pA,pB,pC,pD]
     refine tk 4 rfl ?v_2 ?hy_2 ?r_2
     case hy_2=>intro w hSw;go_simp;try with_reducible rfl
     simp only [pA,pB,pC,pD]
     refine tk 5 rfl ?v_3 ?hy_3 ?r_3
     case hy_3=>intro w hSw;go_simp;try with_reducible rfl
     simp only [pA,pB,pC,pD]
     have hbd:Below w6.heap.size w6 (World.drew w6):=below_drewN' w6 1
     have HPD:=Lib.hid (HW6.out.res.below hbd)
     clear hbd
     generalize World.drew w6=Wd at*
     refine wpAnyH_ready (rs:=[3]) (by kernel_rfl) (by simp) ?_
     refine AllReadyH.cons rfl (fun K hK=> ?_) AllReadyH.nil
     go_simp
     go_at_call 43
     refine(strays_there Wd f m (rdD d (nr+(ns+n2+na))) L (HW6.out.fs.turned hHeld (fun k hk he=>by have:=HLT.out k hk;omega)) HDN.out mn _ (HW6.out.seg.turned hHeld (fun k hk=>by omega)).row (fun g hg=>by have:=HSG.out g hg;omega) (by omega)).mono ?_
     rintro e w7 ⟨v7,rfl,ho7,hb7⟩
     have HT7:=Lib.hid (show Turned (fun k=>k=w.heap.size) w6 w7 from hHeld.trans (Turned.below hb7) fun i hi=> .inl hi)
     have HR7:=Lib.hid (stIn_own (A:=fun k=>w6.heap.size≤k) (l:=straysD d true mn) (own_mono ho7 hHeld.size) (fun _ h=>h))
     obtain⟨o7,cap7,rfl,_,_⟩:=own_shape ho7
     have HP7:=Lib.hid (HPD.out.below hb7)
     have hlo:w.heap.size<w6.heap.size:=HW6.out.res.lt
     clear ho7 hb7 hHeld HPD
     go_wp2_with fail
     refine hK.out _ _ HT7.out (fun hHeld=> ?_)
     clear hK K hHeld
     refine tk 6 rfl ?v_4 ?hy_4 ?r_4
     case hy_4=>intro w hSw;go_simp;try with_reducible rfl
     simp only [pA,pB,pC,pD]
     refine wpAnyH_ready (rs:=[7]) (by kernel_rfl) (by simp) ?_
     refine AllReadyH.cons rfl (fun K hK=> ?_) AllReadyH.nil
     rw [if_pos (by kernel_rfl)]
     refine wp_store_row 34 (.tmp 2) (.tmp 113) rfl w.heap.size (plCs ⟨false,mn,straysD d true mn,(cu:Int),lg.first - 1+(cn:Int)⟩ (.slice (some ⟨b,off,none⟩) mn.segs.length scap) (.slice o7 (straysD d true mn).length cap7)) rfl rfl 34 (plCs planZ (.slice none 0 0) (.slice none 0 0)) HP7.out plInfo rfl (plCs_all _ _ _ rfl rfl) ?_
     have ht8:Turned (fun k=>k=w.heap.size) w7 (w7.setRow w.heap.size (plCs ⟨false,mn,straysD d true mn,(cu:Int),lg.first - 1+(cn:Int)⟩ (.slice (some ⟨b,off,none⟩) mn.segs.length scap) (.slice o7 (straysD d true mn).length cap7))):=run_setRow_turned _ _ _
     have HP8:=Lib.hid (show PlBlk (w7.setRow w.heap.size (plCs ⟨false,mn,straysD d true mn,(cu:Int),lg.first - 1+(cn:Int)⟩ (.slice (some ⟨b,off,none⟩) mn.segs.length scap) (.slice o7 (straysD d true mn).length cap7))) w.heap.size ⟨false,mn,straysD d true mn,(cu:Int),lg.first - 1+(cn:Int)⟩ (.slice (some ⟨b,off,none⟩) mn.segs.length scap) (.slice o7 (straysD d true mn).length cap7) from HP7.out.row)
     have HT8:=Lib.hid (show Turned (fun k=>k=w.heap.size) w6 (w7.setRow w.heap.size (plCs ⟨false,mn,straysD d true mn,(cu:Int),lg.first - 1+(cn:Int)⟩ (.slice (some ⟨b,off,none⟩) mn.segs.length scap) (.slice o7 (straysD d true mn).length cap7))) from HT7.out.trans ht8 fun i hi=> .inl hi)
     have HR8:=Lib.hid (HR7.out.turned ht8 fun k hk=>by omega)
     clear ht8 HR7 HT7 HP7
     generalize w7.setRow w.heap.size (plCs ⟨false,mn,straysD d true mn,(cu:Int),lg.first - 1+(cn:Int)⟩ (.slice (some ⟨b,off,none⟩) mn.segs.length scap) (.slice o7 (straysD d true mn).length cap7))=w8 at*
     refine hK.out _ _ HT8.out (fun hHeld=> ?_)
     clear hK K
     refine tk 8 rfl ?v_5 ?hy_5 ?r_5
     case hy_5=>intro w hSw;go_simp;try with_reducible rfl
     simp only [pA]
     refine wpAnyH_done (by kernel_rfl) ?_ _
     have HTE:=Lib.hid (show Turned (fun i=>i=f) w w8 from HW6.out.top.trans HT8.out fun i hi=> .inr (by omega))
     have HSE:=Lib.hid (show SgIn (fun k=>w.heap.size≤k) w8 (.slice (some ⟨b,off,none⟩) mn.segs.length scap) mn.segs from(HW6.out.seg.turned HT8.out (fun k hk=>by omega)).mono (fun k hk=>by omega))
     have HFE:=Lib.hid (show FsAt w8 f m (rdD d (nr+(ns+n2+na))) L from HW6.out.fs.turned HT8.out (fun k hk he=>by have:=HLT.out k hk;omega))
     clear hHeld
     go_wp2
     refine bodyPost_ret (v:= .tuple #[plV ⟨false,mn,straysD d true mn,(cu:Int),lg.first - 1+(cn:Int)⟩ (.slice (some ⟨b,off,none⟩) mn.segs.length scap) (.slice o7 (straysD d true mn).length cap7),.int .i64 0]) (results_pl2 rfl _ _ w.heap.size _ _ _ _ rfl rfl HP8.out) rfl ?_
     rw [HPE.out]
     exact⟨_,_,rfl,HSE.out,HR8.out.mono (fun k hk=>by omega),rfl,rfl,HFE.out,HTE.out⟩
end Go.Proofs.YtlobohpbgghleaaGreatDoor

namespace Go.Proofs.YtlobohpbgghleaaGreatDoor
open Go.RowKit Go.ChangeShapes Go.WideShapes
theorem bRow_ofF {w:World} {v:Value} {zs:List Int} (h:Row 1 1 (RInt .u8) w v zs):BRow w v (zs.map fun z=>UInt8.ofNat z.toNat)∧zs.length≤140737488355328:=by
 obtain⟨oa,cap,rfl,h1,h2,hr,h3⟩:=h
 have hw: ∀ z∈zs,(Lit.int .u8 z).wf=true:=fun z hzm=>by
  obtain⟨i,hi,he⟩:=List.getElem_of_mem hzm
  obtain⟨b,off,_,h5⟩:=h3 (by rintro rfl;simp at hi)
  obtain⟨cs,_,_,hR⟩:=h5 i z (by rw [List.getElem?_eq_getElem hi,he])
  exact hR.2
 refine⟨⟨oa,cap,by rw [List.length_map],by simpa using h1,fun hn=> ?_⟩,by unfold reachBytes at hr;omega⟩
 obtain⟨b,off,h4,h5⟩:=h3 (by rintro rfl;exact hn rfl)
 refine⟨b,off,h4,fun i x hx=> ?_⟩
 rw [List.getElem?_map] at hx
 obtain⟨z,hz1,rfl⟩:=Option.map_eq_some_iff.1 hx
 obtain⟨cs,_,hcs,hR⟩:=h5 i z hz1
 have:=hcs 0 (.int .u8 z) (by rw [hR.1];rfl)
 rw [u8_of (hw z (List.mem_of_getElem? hz1))]
 simpa using this
def RFlF (w:World) (cs:List Value) (f:Fil):Prop:= ∃ dv,cs=(flCs f dv).toList∧BRow w dv f.data∧f.data.length≤140737488355328
theorem opensF_File:Opens Tryz.prog 49 3 RFlF:=by
 intro H enc W fuel cs x hx hz
 have ho:Opens Tryz.prog 49 3 (RCons 1 RStr (RCons 1 (RRow 1 1 (RInt .u8)) (RCons 1 (RInt .i64) RNil))):=
  opens_struct Tryz.underlying49 (by kernel_rfl) (opens_cons rfl (by kernel_rfl) (opens_str Tryz.underlying9) (opens_cons rfl (by kernel_rfl) (opens_slice Tryz.underlying47 (by kernel_rfl) (by kernel_rfl) (by decide) (opens_int (k:= .u8) Tryz.underlying5))
   (opens_cons rfl (by kernel_rfl) (opens_int Tryz.underlying3) opens_nil)))
 obtain⟨hl,⟨n,zs,s,_⟩,h0,h1,h2,_⟩:=ho enc W fuel cs x hx hz
 obtain⟨dv,e1,r1⟩:=h1
 obtain⟨a1,a2⟩:=bRow_ofF r1
 refine⟨hl,⟨n,zs.map fun z=>UInt8.ofNat z.toNat,s⟩,dv,?_,a1,by rw [List.length_map];exact a2⟩
 match cs,hl with
 | [c0,c1,c2],_=>
  have e0:=h0.1
  have e2:=h2.1
  simp at e0 e1 e2
  simp [flCs,e0,e1,e2]
structure RdFilesF (w:World) (v:Value) (fs:List Fil):Prop where
 row:FilesIn (fun _=>True) w v fs
 len:fs.length≤2932031007401
 dat: ∀ f∈fs,f.data.length≤140737488355328
set_option maxRecDepth 100000 in
theorem open_sl_api_File {H:Type} {enc:TypeId×Value→H} {W:World} {base:Nat} {v:Value} {d:DataW H} {p:List MemPlace}
  (hok:Value.okWide Tryz.prog W .any base 22 v) (h:DataW.Trod enc Tryz.prog W 0 (fun _=>true) true 22 v d p) (hz:(d.weights Tryz.prog 22).all (· ≤reachBytes)=true):
  ∃ a,RdFilesF W v a:=by
 obtain⟨rs,oa,cap,rfl,h1,h2,hr,h3⟩:=open_slice_by (P:=Tryz.prog) (opens_slice (bytes:=48) Tryz.underlying22 (by kernel_rfl) (by kernel_rfl) (by decide) opensF_File) Tryz.underlying22 hok h hz
 refine⟨rs,⟨oa,cap,rfl,h1,h2,fun hn=> ?_⟩,?_,fun f hf=> ?_⟩
 ·obtain⟨b,off,h4,h5⟩:=h3 hn
  refine⟨b,off,h4,trivial,fun i r hi=> ?_⟩
  obtain⟨cs,_,hc,dv,hR,hB,_⟩:=h5 i r hi
  exact⟨dv,fun j u hj=>hc j u (by rw [hR];exact hj),browIn_true hB⟩
 ·unfold reachBytes at hr
  omega
 ·obtain⟨i,hi,he⟩:=List.getElem_of_mem hf
  obtain⟨b,off,h4,h5⟩:=h3 (by rintro rfl;simp at hi)
  obtain⟨cs,_,_,dv,_,_,hd⟩:=h5 i f (by rw [List.getElem?_eq_getElem hi,he])
  exact hd
end Go.Proofs.YtlobohpbgghleaaGreatDoor

namespace Go.Proofs.YtlobohpbgghleaaGreatDoor
open Go.RowKit
theorem mountD_new {room:Int} {fs:List Fil} (h:(mountD room fs).2=0):(mountD room fs).1.reads=0∧(mountD room fs).1.fuse=0∧(mountD room fs).1.down=false:=by
 have key: ∀ (fs:List Fil) (d:Disk),(mountGo d fs).2=0→(mountGo d fs).1.reads=d.reads∧(mountGo d fs).1.fuse=d.fuse:=fun fs=>by
  induction fs with
  | nil=>intro d _;exact⟨rfl,rfl⟩
  | cons f r ih=>
   intro d he
   rw [mountGo] at he ⊢
   by_cases h0:mountE d f=0
   ·rw [if_pos h0] at he ⊢
    exact ih _ he
   ·rw [if_neg h0] at he
    exact absurd he h0
 have h3:=(mountD_ok h).2.2
 unfold mountD at h h3 ⊢
 split at h
 ·cases h
 ·rename_i hc
  rw [if_neg hc] at h3 ⊢
  exact⟨(key _ _ h).1,(key _ _ h).2,h3⟩
set_option maxRecDepth 100000 in
set_option maxHeartbeats 8000000 in
theorem recoveryReads_walk0 (room:Int) (fs:List Fil) (fv:Value) (w:World) (hf:FilesIn (fun _=>True) w fv fs) (hl: ∀ f∈fs,f.data.length≤140737488355328) (hlen:fs.length≤2932031007401) (hn:NibTab w):
  Calls Tryz.prog 3 #[.int .i64 room,fv] w fun e w'=>e= .returned (.bool true)∧Below w.heap.size w w':=by
 have HF:=Lib.hid hf
 have HL:=Lib.hid hl
 have HLEN:=Lib.hid hlen
 have HNB:=Lib.hid hn
 obtain⟨rd,hrd⟩: ∃ r,r=mountD room fs:=⟨_,rfl⟩
 have HMO:=Lib.hid (show rd.2=0→rd.1.reads=0∧rd.1.fuse=0∧rd.1.down=false from fun h=>by rw [hrd] at h ⊢;exact mountD_new h)
 have HPF:=Lib.hid (fun(W:World) (A:Nat→Prop) (v:Value) (h:FilesIn A W v fs)=>fsMount_any room fs v W h hl)
 rw [←hrd] at HPF
 clear hrd
 obtain⟨d,er⟩:=rd
 obtain⟨ov,fc,rfl,_⟩:=hf
 clear hl hlen hn
 go_enter Tryz.func3,Tryz.ntmps3
 go_wp2_with fail
 refine(head18_any _ HNB.out).mono ?_
 rintro e w1 ⟨rfl,hb1⟩
 have HB1:=Lib.hid hb1
 clear hb1
 go_wp2_with fail
 refine(refCopyF_any (A:=fun _=>True) fs _ w1 (HF.out.below HB1.out) HLEN.out HL.out).mono ?_
 rintro e w2 ⟨v2,rfl,hf2,hb2⟩
 have HB2:=Lib.hid (Below.next HB1.out hb2)
 have HC2:=Lib.hid (HPF.out w2 _ v2 hf2)
 clear hf2 hb2 HB1 HPF
 go_wp2_with fail
 refine HC2.out.mono ?_
 rintro e w3 ⟨hc3,hb3⟩
 have HB3:=Lib.hid (Below.next HB2.out hb3)
 rcases hc3 with⟨hne,rfl⟩ | ⟨hz,f,m,L,rfl,hat3,hlow⟩
 ·have hq:(er != 0)=true:=by simpa using hne
  clear hne hb3 HMO HC2
  go_wp2
  go_ret
  exact⟨rfl,HB3.out⟩
 ·simp only at hz
  subst hz
  obtain⟨hr0,_,hd0⟩:=HMO.out rfl
  have HDN:=Lib.hid hd0
  have HR0:=Lib.hid hr0
  have HOK:=Lib.hid hat3.ok
  have HLOW:=Lib.hid hlow
  have HLT:=Lib.hid hat3.lt
  have HNB3:=Lib.hid (HNB.out.below HB3.out)
  have HPL:=Lib.hid (plan_any w3 f m d L hat3 HNB3.out)
  have HRB:=Lib.hid (show (planD d).2≤2*usedF d.files from plan_read hat3.ok.rise)
  have HBAD:=Lib.hid (@plan_bad d)
  have HERR:=Lib.hid (plan_errs hd0)
  have HGD:=Lib.hid (@plan_good d)
  have HSUB:=Lib.hid (fun t mn=>strays_sub d t mn hat3.ok.rise)
  have HSO:=Lib.hid (fun t mn n (hm:n∈straysD d t mn)=>(stray_open hd0 hat3.ok.names hm).1)
  have hus:=hat3.ok.used
  have hrm:=hat3.ok.room
  obtain⟨r,hr⟩: ∃ r,r=planD d:=⟨_,rfl⟩
  rw [←hr] at HPL HRB HBAD HERR HGD
  obtain⟨U,hU⟩: ∃ U,U=usedF d.files:=⟨_,rfl⟩
  have HUE:=Lib.hid hU
  rw [←hU] at hus HRB
  clear hb3 hat3 hlow hr0 hd0 HMO HC2 hr hU
  obtain⟨⟨p,e0⟩,nr⟩:=r
  unfold PlanP at HPL
  dsimp only at HPL HRB HBAD HERR HGD
  go_wp2_with fail
  refine HPL.out.mono ?_
  rintro e w4 ⟨sv,rv,rfl,hsg,hsr,hone,hrone,hf4,ht4⟩
  have HONE:=Lib.hid hone
  have HRONE:=Lib.hid hrone
  have HPz:=Lib.hid (plBlk_alloc w4 planZ (.slice none 0 0) (.slice none 0 0))
  have hba:=below_alloc w4 (.cells (plCs planZ (.slice none 0 0) (.slice none 0 0)) 34)
  simp only [plCs,planZ,zeroM] at HPz hba
  have HF4:=Lib.hid hf4
  have HSR:=Lib.hid hsr
  have HB4:=Lib.hid (turned_below HB3.out ht4 (fun k hk=>by have:=HLOW.out k (by rw [hk];exact .inl rfl);have:=HB2.out.size;omega) HB3.out.size)
  clear hone hrone hsg hsr hf4 ht4 HPL
  go_wp2_with (with_reducible refine wpList_store_pl rfl (.tmp 7) (.tmp 28) rfl w4.heap.size ⟨false,⟨0,0,0,0,0,[]⟩,[],0,0⟩ p (.slice none 0 0) (.slice none 0 0) sv rv rfl rfl HPz.out HONE.out HRONE.out ?_)
  intro w5 hw5
  have hb5:Below w4.heap.size w4 w5:=by rw [hw5.out];exact below_row hba (Nat.le_refl _) _
  have HP5:=Lib.hid (show PlBlk w5 w4.heap.size p sv rv by rw [hw5.out];exact HPz.out.row)
  have HF5:=Lib.hid (HF4.out.below hb5)
  have HS5:=Lib.hid (HSR.out.below hb5)
  have HB5:=Lib.hid (Below.next HB4.out hb5)
  clear hw5 hb5 hba HPz HF4 HSR HB4
  generalize w4.heap.size=gp at*
  have HRB5:=Lib.hid (show Calls Tryz.prog 13 #[.pointer (some ⟨f,0,none⟩)] w5 fun e w'=>e= .returned (.int .i64 (nr:Int))∧w5=w' by
   have:=readBytes_any w5 f m (rdD d nr) L HF5.out
   rwa [show (rdD d nr).reads=(nr:Int) by show IntKind.i64.wrap (d.reads+(nr:Int))=_;rw [HR0.out,IntKind.wrap_i64];have:=HRB.out;omega] at this)
  have HUS5:=Lib.hid (show Calls Tryz.prog 14 #[.pointer (some ⟨f,0,none⟩)] w5 fun e w'=>e= .returned (.int .i64 (U:Int))∧w5=w' by
   have:=used_any w5 f m (rdD d nr) L HF5.out
   rwa [show usedF (rdD d nr).files=U from HUE.out.symm] at this)
  have hwm:IntKind.i64.wrap (2*(U:Int))=2*(U:Int):=by rw [IntKind.wrap_i64];omega
  have hqr:decide (2*(U:Int)<(nr:Int))=false:=by have:=HRB.out;simp;omega
  clear HRB hus hrm HUE HR0
  go_wp2_with fail
  refine HRB5.out.mono ?_
  rintro e w6 ⟨rfl,rfl⟩
  go_wp2_with fail
  refine HUS5.out.mono ?_
  rintro e w6 ⟨rfl,rfl⟩
  clear HRB5 HUS5
  rcases he:(e0 != 0) with _ | _
  case true=>
   have hpz:=HBAD.out (by simpa using he)
   have he4:=HERR.out
   subst hpz
   obtain⟨oz,cz,hz,_⟩:=HS5.out
   have c7:=HP5.out.c7
   rw [hz] at c7
   have c7:w5.cell? ⟨gp,7,none⟩=some (.slice oz 0 cz):=c7
   have h45:e0=4∨e0=54:=by
    rcases he4 with h | h
    ·exact absurd h (by simpa using he)
    ·exact h
   clear he4 hz
   rcases h45 with rfl | rfl
   ·go_wp2
    go_ret
    exact⟨rfl,HB5.out⟩
   ·go_wp2
    go_ret
    exact⟨rfl,HB5.out⟩
  case false=>
   obtain⟨hsn,hcu,tt,mm,hrem⟩:=HGD.out (by simpa using he)
   obtain⟨hrise,hon⟩:=HSUB.out tt mm
   have HOP:=Lib.hid (fun n (hn:n∈p.remove)=>HSO.out tt mm n (by rw [←hrem];exact hn))
   rw [←hrem] at hrise hon
   have HRI:=Lib.hid hrise
   have HON:=Lib.hid hon
   obtain⟨orv,crv,hrv,_,_,hcel⟩:=HS5.out
   have HCL:=Lib.hid hcel
   subst hrv
   have c7:=HP5.out.c7
   clear hrem hrise hon hcel HBAD HERR HGD HSUB HSO
   go_wp2
   go_loopw [53] (fun iv wr=> ∃ k:Nat,k≤p.remove.length∧iv= .int .i64 (k:Int)∧Hid (Below w5.heap.size w5 wr)) (fun iv _=>p.remove.length - (intOf iv).toNat)
   case atStart=>exact⟨0,Nat.zero_le _,rfl,Lib.hid (Below.refl _ _)⟩
   case round=>
    obtain⟨k,hk,rfl,HB⟩:=hrel
    clear c7
    by_cases hlt:k<p.remove.length
    ·obtain⟨x,hx,_,hxm⟩:=nth p.remove k hlt
     obtain⟨b,off,rfl,_,hce⟩:=HCL.out k x hx
     have q1:(k:Int)<(p.remove.length:Int):=by omega
     have k1:=cell_later HB.out hce
     have HPR:=Lib.hid (HP5.out.below HB.out)
     have c7:=HPR.out.c7
     have HSI:=Lib.hid (size_any wr f m (rdD d nr) L (HF5.out.below HB.out) x)
     obtain⟨y,hy⟩: ∃ y,atF d.files x=some y:=(HON.out x hxm)
     rw [show doD (rdD d nr) (opSize x)=(rdD d nr,[],(y.data.length:Int),0) from sizeO (show openE (rdD d nr) x=0 from HOP.out x hxm) hy] at HSI
     have hk1:IntKind.i64.wrap ((k:Int)+1)=(k:Int)+1:=by rw [IntKind.wrap_i64];omega
     have HXX:=Lib.hid hx
     clear hx hxm hy
     go_wp2_with fail
     refine HSI.out.mono ?_
     rintro e w6 ⟨rfl,rfl⟩
     clear c7 k1
     rcases hk0:decide (0<k) with _ | _
     ·go_wp2_with fail
      refine wp_region_held_drew (S:=fun w'=>Below wr.heap.size wr w') (by kernel_rfl) (below_drewN' wr 1) (fun hHeld=> ?_)
      generalize World.drew _=We at*
      refine tk 0 rfl ?v_1 ?hy_1 ?r_1
      case hy_1=>intro w hSw;go_simp;try with_reducible rfl
      simp only [pA,pB,pC,pD]
      refine tk 1 rfl ?v_2 ?hy_2 ?r_2
      case hy_2=>intro w hSw;go_simp;try with_reducible rfl
      simp only [pA,pB,pC,pD]
      refine tk 2 rfl ?v_3 ?hy_3 ?r_3
      case hy_3=>intro w hSw;go_simp;try with_reducible rfl
      simp only [pA,pB,pC,pD]
      refine tk 3 rfl ?v_4 ?hy_4 ?r_4
      case hy_4=>intro w hSw;go_simp;try with_reducible rfl
      simp only [pA,pB,pC,pD]
      refine tk 4 rfl ?v_5 ?hy_5 ?r_5
      case hy_5=>intro w hSw;go_simp;try with_reducible rfl
      simp only [pA,pB,pC,pD]
      refine tk 5 rfl ?v_6 ?hy_6 ?r_6
      case hy_6=>intro w hSw;go_simp;try with_reducible rfl
      simp only [pA,pB,pC,pD]
      refine tkn 6 rfl ?_
      simp only [pA,pB,pC,pD]
      refine tkn 7 rfl ?_
      simp only [pA,pB,pC,pD]
      refine tkn 8 rfl ?_
      simp only [pA,pB,pC,pD]
      refine tkn 9 rfl ?_
      simp only [pA,pB,pC,pD]
      refine tkn 10 rfl ?_
      simp only [pA,pB,pC,pD]
      refine tkn 11 rfl ?_
      simp only [pA,pB,pC,pD]
      refine tkn 12 rfl ?_
      simp only [pA,pB,pC,pD]
      refine tkn 13 rfl ?_
      simp only [pA,pB,pC,pD]
      refine tkn 14 rfl ?_
      simp only [pA,pB,pC,pD]
      refine tkn 15 rfl ?_
      simp only [pA,pB,pC,pD]
      refine tkn 16 rfl ?_
      simp only [pA,pB,pC,pD]
      refine tkn 17 rfl ?_
      simp only [pA,pB,pC,pD]
      refine tk 18 rfl ?v_7 ?hy_7 ?r_7
      case hy_7=>intro w hSw;go_simp;try with_reducible rfl
      simp only [pA,pB,pC,pD]
      refine tk 19 rfl ?v_8 ?hy_8 ?r_8
      case hy_8=>intro w hSw;go_simp;try with_reducible rfl
      simp only [pA,pB,pC,pD]
      refine wpAnyH_done (by kernel_rfl) ?_ _
      have HBE:=Lib.hid (Below.next HB.out hHeld)
      clear hHeld
      go_wp2
      go_roundw
      case rel=>exact⟨k+1,by omega,by go_num,HBE⟩
      case measure=>simp [intOf];omega
     ·have hkp:0<k:=of_decide_eq_true hk0
      obtain⟨z,hz,_,_⟩:=nth p.remove (k - 1) (by omega)
      obtain⟨b',off',e',_,hcz⟩:=HCL.out (k - 1) z hz
      simp only [Option.some.injEq,Addr.mk.injEq,and_true] at e'
      obtain⟨rfl,rfl⟩:=e'
      have hbf:bytesBefore z x=true:=by
       obtain⟨h1,e1⟩:=List.getElem?_eq_some_iff.1 hz
       obtain⟨h2,e2⟩:=List.getElem?_eq_some_iff.1 HXX.out
       rw [←e1,←e2]
       exact List.pairwise_iff_getElem.1 HRI.out (k - 1) k h1 h2 (by omega)
      have hle:(Op.bytesLess x z || x==z)=false:=by
       rw [less_before,bytes_asymm hbf]
       have:=bytes_ne hbf
       simpa using this.symm
      have k2:=cell_later HB.out hcz
      have k1:=cell_later HB.out hce
      have hkm:IntKind.i64.wrap ((k:Int) - 1)=((k - 1:Nat):Int):=by rw [IntKind.wrap_i64];omega
      have q2:((k - 1:Nat):Int)<(p.remove.length:Int):=by omega
      have HK1:=Lib.hid k1
      have HK2:=Lib.hid k2
      clear hbf hz hcz hce k1 k2
      go_wp2_with fail
      refine wp_region_held_drew (S:=fun w'=>Below wr.heap.size wr w') (by kernel_rfl) (below_drewN' wr 1) (fun hHeld=> ?_)
      generalize World.drew _=We at*
      refine tk 0 rfl ?v_9 ?hy_9 ?r_9
      case hy_9=>intro w hSw;have c7:=(HPR.out.below hSw).c7;have a1:=cell_later hSw HK1.out;have a2:=cell_later hSw HK2.out;go_simp;try with_reducible rfl
      simp only [pA,pB,pC,pD]
      refine tk 1 rfl ?v_10 ?hy_10 ?r_10
      case hy_10=>intro w hSw;have c7:=(HPR.out.below hSw).c7;have a1:=cell_later hSw HK1.out;have a2:=cell_later hSw HK2.out;go_simp;try with_reducible rfl
      simp only [pA,pB,pC,pD]
      refine tk 2 rfl ?v_11 ?hy_11 ?r_11
      case hy_11=>intro w hSw;have c7:=(HPR.out.below hSw).c7;have a1:=cell_later hSw HK1.out;have a2:=cell_later hSw HK2.out;go_simp;try with_reducible rfl
      simp only [pA,pB,pC,pD]
      refine tk 3 rfl ?v_12 ?hy_12 ?r_12
      case hy_12=>intro w hSw;have c7:=(HPR.out.below hSw).c7;have a1:=cell_later hSw HK1.out;have a2:=cell_later hSw HK2.out;go_simp;try with_reducible rfl
      simp only [pA,pB,pC,pD]
      refine tk 4 rfl ?v_13 ?hy_13 ?r_13
      case hy_13=>intro w hSw;have c7:=(HPR.out.below hSw).c7;have a1:=cell_later hSw HK1.out;have a2:=cell_later hSw HK2.out;go_simp;try with_reducible rfl
      simp only [pA,pB,pC,pD]
      refine tk 5 rfl ?v_14 ?hy_14 ?r_14
      case hy_14=>intro w hSw;have c7:=(HPR.out.below hSw).c7;have a1:=cell_later hSw HK1.out;have a2:=cell_later hSw HK2.out;go_simp;try with_reducible rfl
      simp only [pA,pB,pC,pD]
      refine tk 6 rfl ?v_15 ?hy_15 ?r_15
      case hy_15=>intro w hSw;have c7:=(HPR.out.below hSw).c7;have a1:=cell_later hSw HK1.out;have a2:=cell_later hSw HK2.out;go_simp;try with_reducible rfl
      simp only [pA,pB,pC,pD]
      refine tk 7 rfl ?v_16 ?hy_16 ?r_16
      case hy_16=>intro w hSw;have c7:=(HPR.out.below hSw).c7;have a1:=cell_later hSw HK1.out;have a2:=cell_later hSw HK2.out;go_simp;try with_reducible rfl
      simp only [pA,pB,pC,pD]
      refine tk 8 rfl ?v_17 ?hy_17 ?r_17
      case hy_17=>intro w hSw;have c7:=(HPR.out.below hSw).c7;have a1:=cell_later hSw HK1.out;have a2:=cell_later hSw HK2.out;go_simp;try with_reducible rfl
      simp only [pA,pB,pC,pD]
      refine tk 9 rfl ?v_18 ?hy_18 ?r_18
      case hy_18=>intro w hSw;have c7:=(HPR.out.below hSw).c7;have a1:=cell_later hSw HK1.out;have a2:=cell_later hSw HK2.out;go_simp;try with_reducible rfl
      simp only [pA,pB,pC,pD]
      refine tk 10 rfl ?v_19 ?hy_19 ?r_19
      case hy_19=>intro w hSw;have c7:=(HPR.out.below hSw).c7;have a1:=cell_later hSw HK1.out;have a2:=cell_later hSw HK2.out;go_simp;try with_reducible rfl
      simp only [pA,pB,pC,pD]
      refine tk 11 rfl ?v_20 ?hy_20 ?r_20
      case hy_20=>intro w hSw;have c7:=(HPR.out.below hSw).c7;have a1:=cell_later hSw HK1.out;have a2:=cell_later hSw HK2.out;go_simp;try with_reducible rfl
      simp only [pA,pB,pC,pD]
      refine tk 12 rfl ?v_21 ?hy_21 ?r_21
      case hy_21=>intro w hSw;have c7:=(HPR.out.below hSw).c7;have a1:=cell_later hSw HK1.out;have a2:=cell_later hSw HK2.out;go_simp;try with_reducible rfl
      simp only [pA,pB,pC,pD]
      refine tk 13 rfl ?v_22 ?hy_22 ?r_22
      case hy_22=>intro w hSw;have c7:=(HPR.out.below hSw).c7;have a1:=cell_later hSw HK1.out;have a2:=cell_later hSw HK2.out;go_simp;try with_reducible rfl
      simp only [pA,pB,pC,pD]
      refine tk 14 rfl ?v_23 ?hy_23 ?r_23
      case hy_23=>intro w hSw;have c7:=(HPR.out.below hSw).c7;have a1:=cell_later hSw HK1.out;have a2:=cell_later hSw HK2.out;go_simp;try with_reducible rfl
      simp only [pA,pB,pC,pD]
      refine tk 15 rfl ?v_24 ?hy_24 ?r_24
      case hy_24=>intro w hSw;have c7:=(HPR.out.below hSw).c7;have a1:=cell_later hSw HK1.out;have a2:=cell_later hSw HK2.out;go_simp;try with_reducible rfl
      simp only [pA,pB,pC,pD]
      refine tk 16 rfl ?v_25 ?hy_25 ?r_25
      case hy_25=>intro w hSw;have c7:=(HPR.out.below hSw).c7;have a1:=cell_later hSw HK1.out;have a2:=cell_later hSw HK2.out;go_simp;try with_reducible rfl
      simp only [pA,pB,pC,pD]
      refine tk 17 rfl ?v_26 ?hy_26 ?r_26
      case hy_26=>intro w hSw;have c7:=(HPR.out.below hSw).c7;have a1:=cell_later hSw HK1.out;have a2:=cell_later hSw HK2.out;go_simp;try with_reducible rfl
      simp only [pA,pB,pC,pD]
      refine tk 18 rfl ?v_27 ?hy_27 ?r_27
      case hy_27=>intro w hSw;have c7:=(HPR.out.below hSw).c7;have a1:=cell_later hSw HK1.out;have a2:=cell_later hSw HK2.out;go_simp;try with_reducible rfl
      simp only [pA,pB,pC,pD]
      refine tk 19 rfl ?v_28 ?hy_28 ?r_28
      case hy_28=>intro w hSw;have c7:=(HPR.out.below hSw).c7;have a1:=cell_later hSw HK1.out;have a2:=cell_later hSw HK2.out;go_simp;try with_reducible rfl
      simp only [pA,pB,pC,pD]
      refine wpAnyH_done (by kernel_rfl) ?_ _
      have HBE:=Lib.hid (Below.next HB.out hHeld)
      clear hHeld
      go_wp2
      go_roundw
      case rel=>exact⟨k+1,by omega,by go_num,HBE⟩
      case measure=>simp [intOf];omega
    ·obtain rfl:k=p.remove.length:=by omega
     have HPE:=Lib.hid (HP5.out.below HB.out)
     have d4:wr.cell? ⟨gp,5,none⟩=some (.int .i64 p.man.snapSeq):=HPE.out.cell 5
     have d8:wr.cell? ⟨gp,8,none⟩=some (.int .i64 p.cut):=HPE.out.cell 8
     have d9:wr.cell? ⟨gp,9,none⟩=some (.int .i64 p.last):=HPE.out.cell 9
     have g1:decide (p.man.snapSeq≤p.last)=true:=by simpa using hsn
     have g2:decide (0<p.cut)=true:=by simpa using hcu
     go_wp2
     go_ret
     exact⟨rfl,Below.next HB5.out HB.out⟩
theorem recoveryReads_walk (a0:Int) (v1:Value) (a1:List Fil) (w:World) (_:(Lit.int .i64 a0).wf=true) (h1:RdFilesF w v1 a1) (hL:laidMetH Tryz.prog Rows.recoveryReadsRow.laid w) (_:w.ShapedOpen Tryz.prog):
  Calls Tryz.prog 3 #[.int .i64 a0,v1] w fun e w'=>e= .returned (.bool true)∧Below w.heap.size w w':=by
 have hL0:laidMet Tryz.prog Rows.recoveryReadsRow.laid w:=hL
 exact recoveryReads_walk0 a0 a1 v1 w h1.row h1.dat h1.len (nib_of rfl hL0)
end Go.Proofs.YtlobohpbgghleaaGreatDoor
