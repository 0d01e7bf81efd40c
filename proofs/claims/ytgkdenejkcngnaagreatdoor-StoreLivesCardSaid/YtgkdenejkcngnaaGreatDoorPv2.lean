import Derived.Shelf.Small.Bits
import Derived.Shelf.Small.Wraps
import Derived.Shelf.Strconv.Itoa0
import Derived.Shelf.Sort.Plain
import Derived.Shelf.Strings.Prefix
import Derived.Shelf.Bits.Mul64
import Derived.Shelf.Slices.In.SortNone
import Derived.ProofKit
import Derived.WideAt
import Derived.WideShapes
import Derived.Maps.OwnSet
import Derived.Deep.AppendSrc
import Derived.Deep.Upon
import Derived.StringKeys
import Derived.StillTailTactics
import Derived.Sort.KeysCollected
import Derived.Sort.OwnSorted
import Derived.Maps.RangeWalk
import Derived.Stop.BytesEq
import Derived.Test.YtgkdenejkcngnaaGreatDoorPv1
set_option maxRecDepth 100000
set_option maxHeartbeats 8000000
namespace Go.Proofs.YtgkdenejkcngnaaGreatDoor
open Go.RowKit
open Value renaming int→Vi
open IntKind renaming i64→Vk
open Go.Proofs.Tryz
variable {a:Act}{K:Act→World→Prop}{listed:Array Bool}{af:Array Edge}{ops:Array Oper}{D:DataW Value}{Q:Exit→Act→World→Prop}{fn:Func}{bad from_ num:Int}{E bs:List (List UInt8)}{zs:List Int}{us vs:List Nat}{rest:List Oper}{b body l n raw t:List UInt8}{cs:List Value}{B N base c f first g i j k m more most p r segEv size stride u:Nat}{A A' S:Nat→Prop}{o:Oper}{P:Program}{q:Tmp}{bv mv rv sv v v' v1:Value}{W W' X w w' w0 w1 w2:World}
end Go.Proofs.YtgkdenejkcngnaaGreatDoor
namespace Go.Proofs
open Go.Shelf
def Tryz.lays103_ren:Go.Shelf.Ren:=⟨fun | 103=>165 | 210=>189 | 206=>195 | n=>n,fun | 9=>9 | 4=>4 | 24=>281 | 3=>3 | n=>n,fun | n=>n⟩
theorem Tryz.lays103:Go.Proofs.Lays.n103 Tryz.prog Tryz.lays103_ren:={
 mixed:=by kernel_rfl
 f103:=Tryz.func165.trans (congrArg some (by kernel_rfl))
 f206:=Tryz.func195.trans (congrArg some (by kernel_rfl))
 f210:=Tryz.func189.trans (congrArg some (by kernel_rfl))
 t3:=Tryz.underlying3
 a3:=Tryz.isAgg3
 z3:=Tryz.sizeOf3
 v3:=Tryz.zeroValue3
 t4:=Tryz.underlying4
 a4:=Tryz.isAgg4
 z4:=Tryz.sizeOf4
 v4:=Tryz.zeroValue4
 t9:=Tryz.underlying9
 a9:=Tryz.isAgg9
 z9:=Tryz.sizeOf9
 v9:=Tryz.zeroValue9
 t24:=Tryz.underlying281
 a24:=Tryz.isAgg281
 z24:=Tryz.sizeOf281
 v24:=Tryz.zeroValue281}
open Go.RowKit in
theorem Tryz.strings_CutPrefix (s p:ByteArray) (w:World):
  Calls Tryz.prog 165 #[.string s,.string p] w fun e w'=>e= .returned (.tuple #[.string ⟨(Lib.trimPrefix s.data.toList p.data.toList).toArray⟩,.bool (Lib.hasPrefix s.data.toList p.data.toList)])∧w'=w:=Any.strings_CutPrefix Tryz.lays103 s p w
def Tryz.lays190_ren:Go.Shelf.Ren:=⟨fun | 190=>75 | 125=>116 | 258=>115 | 128=>150 | 129=>151 | 302=>141 | 303=>142 | 304=>143 | 305=>144 | 306=>145 | 307=>146 | 308=>147 | 309=>148 | 310=>149 | 333=>176 | 329=>177 | 330=>178 | 334=>179 | 335=>180 | 336=>181 | 344=>190 | n=>n,fun | 31=>73 | 9=>9 | 3=>3 | 46=>179 | 0=>0 | 51=>181 | 53=>137 | 4=>4 | 183=>244 | 182=>243 | 131=>213 | 5=>5 | 218=>290 | 222=>294 | 228=>309 | 229=>216 | n=>n,fun | n=>n⟩
theorem Tryz.lays190:Go.Proofs.Lays.n190 Tryz.prog Tryz.lays190_ren:={
 mixed:=by kernel_rfl
 f125:=Tryz.func116.trans (congrArg some (by kernel_rfl))
 f128:=Tryz.func150.trans (congrArg some (by kernel_rfl))
 f129:=Tryz.func151.trans (congrArg some (by kernel_rfl))
 f190:=Tryz.func75.trans (congrArg some (by kernel_rfl))
 f258:=Tryz.func115.trans (congrArg some (by kernel_rfl))
 f302:=Tryz.func141.trans (congrArg some (by kernel_rfl))
 f303:=Tryz.func142.trans (congrArg some (by kernel_rfl))
 f304:=Tryz.func143.trans (congrArg some (by kernel_rfl))
 f305:=Tryz.func144.trans (congrArg some (by kernel_rfl))
 f306:=Tryz.func145.trans (congrArg some (by kernel_rfl))
 f307:=Tryz.func146.trans (congrArg some (by kernel_rfl))
 f308:=Tryz.func147.trans (congrArg some (by kernel_rfl))
 f309:=Tryz.func148.trans (congrArg some (by kernel_rfl))
 f310:=Tryz.func149.trans (congrArg some (by kernel_rfl))
 f329:=Tryz.func177.trans (congrArg some (by kernel_rfl))
 f330:=Tryz.func178.trans (congrArg some (by kernel_rfl))
 f333:=Tryz.func176.trans (congrArg some (by kernel_rfl))
 f334:=Tryz.func179.trans (congrArg some (by kernel_rfl))
 f335:=Tryz.func180.trans (congrArg some (by kernel_rfl))
 f336:=Tryz.func181.trans (congrArg some (by kernel_rfl))
 f344:=Tryz.func190.trans (congrArg some (by kernel_rfl))
 t0:=Tryz.underlying0
 a0:=Tryz.isAgg0
 z0:=Tryz.sizeOf0
 v0:=Tryz.zeroValue0
 t3:=Tryz.underlying3
 a3:=Tryz.isAgg3
 z3:=Tryz.sizeOf3
 v3:=Tryz.zeroValue3
 t4:=Tryz.underlying4
 a4:=Tryz.isAgg4
 z4:=Tryz.sizeOf4
 v4:=Tryz.zeroValue4
 t5:=Tryz.underlying5
 a5:=Tryz.isAgg5
 z5:=Tryz.sizeOf5
 v5:=Tryz.zeroValue5
 t9:=Tryz.underlying9
 a9:=Tryz.isAgg9
 z9:=Tryz.sizeOf9
 v9:=Tryz.zeroValue9
 t31:=Tryz.underlying73
 a31:=Tryz.isAgg73
 z31:=Tryz.sizeOf73
 v31:=Tryz.zeroValue73
 t46:=Tryz.underlying179
 a46:=Tryz.isAgg179
 z46:=Tryz.sizeOf179
 v46:=Tryz.zeroValue179
 t51:=Tryz.underlying181
 a51:=Tryz.isAgg181
 z51:=Tryz.sizeOf181
 v51:=Tryz.zeroValue181
 t53:=Tryz.underlying137
 a53:=Tryz.isAgg137
 z53:=Tryz.sizeOf137
 v53:=Tryz.zeroValue137
 t131:=Tryz.underlying213
 a131:=Tryz.isAgg213
 z131:=Tryz.sizeOf213
 v131:=Tryz.zeroValue213
 t182:=Tryz.underlying243
 a182:=Tryz.isAgg243
 z182:=Tryz.sizeOf243
 v182:=Tryz.zeroValue243
 t183:=Tryz.underlying244
 a183:=Tryz.isAgg244
 z183:=Tryz.sizeOf244
 v183:=Tryz.zeroValue244
 t218:=Tryz.underlying290
 a218:=Tryz.isAgg290
 z218:=Tryz.sizeOf290
 v218:=Tryz.zeroValue290
 t222:=Tryz.underlying294
 a222:=Tryz.isAgg294
 z222:=Tryz.sizeOf294
 v222:=Tryz.zeroValue294
 t228:=Tryz.underlying309
 a228:=Tryz.isAgg309
 z228:=Tryz.sizeOf309
 v228:=Tryz.zeroValue309
 t229:=Tryz.underlying216
 a229:=Tryz.isAgg216
 z229:=Tryz.sizeOf216
 v229:=Tryz.zeroValue216}
open Go.Sort Go.RowKit in
theorem Tryz.slices_Sort_string (blk off cap:Nat) (ss:List (List UInt8)) (w:World) (hH:Holds encStr w blk off ss.toArray) (hblk:blk<w.heap.size) (hsz:ss.length<4611686018427387904):
  Calls Tryz.prog 75 #[.slice (some ⟨blk,off,none⟩) ss.length cap] w fun e w'=>
   e= .returned (.tuple #[])∧ ∃ n os,w'=grow (putRow encStr (Sort.ahead w n) blk off (ss.mergeSort fun x y=>decide (x≤y)).toArray) os:=Any.slices_Sort_string Tryz.lays190 blk off cap ss w hH hblk hsz
end Go.Proofs
namespace Go.Proofs.YtgkdenejkcngnaaGreatDoor
open Go.RowKit
open Value renaming int→Vi
open IntKind renaming i64→Vk
open Go.Proofs.Tryz
variable {a:Act}{K:Act→World→Prop}{listed:Array Bool}{af:Array Edge}{ops:Array Oper}{D:DataW Value}{Q:Exit→Act→World→Prop}{fn:Func}{bad from_ num:Int}{E bs:List (List UInt8)}{zs:List Int}{us vs:List Nat}{rest:List Oper}{b body l n raw t:List UInt8}{cs:List Value}{B N base c f first g i j k m more most p r segEv size stride u:Nat}{A A' S:Nat→Prop}{o:Oper}{P:Program}{q:Tmp}{bv mv rv sv v v' v1:Value}{W W' X w w' w0 w1 w2:World}
def dgt (n:Int) (m k:Nat):Int:=if k<m then 48+n / 10^k % 10 else 48
def sixv (n:Int) (m:Nat):Array Value:= #[.int .u8 (dgt n m 5),.int .u8 (dgt n m 4),.int .u8 (dgt n m 3),.int .u8 (dgt n m 2),.int .u8 (dgt n m 1),.int .u8 (dgt n m 0)]
def six (n:Int):List UInt8:=[UInt8.ofNat (dgt n 6 5).toNat,UInt8.ofNat (dgt n 6 4).toNat,UInt8.ofNat (dgt n 6 3).toNat,UInt8.ofNat (dgt n 6 2).toNat,UInt8.ofNat (dgt n 6 1).toNat,UInt8.ofNat (dgt n 6 0).toNat]
def Ad (n:Int):List UInt8:=if 1≤n∧n≤999999 then [115,101,103,45]++six n else []
def Cs (n:Int):List UInt8:=if 1≤n∧n≤999999 then [98,111,111,107,45]++six n else []
theorem sixv_set (n:Int) (k:Nat) (hk:k<6):(sixv n k).setIfInBounds (5 - k) (.int .u8 (48+n / 10^k % 10))=sixv n (k+1):=by
 have:k=0∨k=1∨k=2∨k=3∨k=4∨k=5:=by omega
 rcases this with rfl|rfl|rfl|rfl|rfl|rfl<;>simp [sixv,dgt]
theorem sixv_get (n:Int) (k:Nat) (hk:k<6):(sixv n k)[5 - k]? =some (.int .u8 48):=by
 have:k=0∨k=1∨k=2∨k=3∨k=4∨k=5:=by omega
 rcases this with rfl|rfl|rfl|rfl|rfl|rfl<;>simp [sixv,dgt]
theorem dgt_bd (n:Int) (m k:Nat):48≤dgt n m k∧dgt n m k≤57:=by unfold dgt;split<;>omega
theorem pow10_pos (k:Nat):(0:Int)≤10^k:=by exact_mod_cast θ _
theorem dgt_done (n:Int) (k:Nat) (hz:n / 10^k=0) (j:Nat):dgt n k j=dgt n 6 j∨6≤j:=by
 by_cases h6:j<6
 ·left;unfold dgt;rw [κ h6];by_cases hj:j<k
  ·rw [κ hj]
  ·rw [γ hj];obtain⟨i,rfl⟩: ∃ i,j=k+i:=⟨j - k,by omega⟩;have:n / 10^(k+i)=0:=by
    rw [Int.pow_add,←Int.ediv_ediv_of_nonneg (pow10_pos k),hz];simp
   rw [this];simp
 ·right;omega
theorem sixv_done (n:Int) (k:Nat) (hz:n / 10^k=0):sixv n k=sixv n 6:=by
 have h:=fun j (hj:j<6)=>(dgt_done n k hz j).resolve_right (by omega);simp [sixv,h]
theorem sixv_six (n:Int) (j:Nat) (hj:j<(six n).length):(sixv n 6)[j]? =some (.int .u8 ((six n)[j].toNat:Int)):=by
 have h:=fun j=>dgt_bd n 6 j;have e: ∀ j,((UInt8.ofNat (dgt n 6 j).toNat).toNat:Int)=dgt n 6 j:=fun j=>by
  have:=h j;simp;omega
 have:j=0∨j=1∨j=2∨j=3∨j=4∨j=5:=by simp [six] at hj;omega
 rcases this with rfl|rfl|rfl|rfl|rfl|rfl<;>simp only [sixv,six,List.getElem_cons_zero,List.getElem_cons_succ,e]<;>rfl
theorem numbered_yes (p:List UInt8) (n:Int) (w:World) (hp:p.length≤100) (h1:1≤n) (h2:n≤999999):
  Calls prog 96 #[.string ⟨p.toArray⟩,Vi Vk n] w fun e w'=>e= .returned (.string ⟨(p++six n).toArray⟩)∧Below w.heap.size w w':=by
 have kc:=fun(w:World) (C:Array Value) (n c:Nat)=>Lib.run_convert_bytes_const (P:=prog) w 39 5 C n c underlying39 underlying5;go_enter func96,ntmps96;go_wp2
 go_loopw [1,6] (fun nv iv wr=> ∃ k:Nat,k≤6∧iv= Vi Vk (5 - k)∧nv= Vi Vk (n / 10^k)∧Below w.heap.size w wr∧w.heap.size<wr.heap.size∧
   wr.heap[w.heap.size]? =some (.cells (sixv n k) 5 (6,7))) (fun _ iv _=>(intOf iv+1).toNat)
 case atStart=>exact⟨0,by omega,rfl,by simp,(χ _ _).alloc (μ _) _,by simp,(σ w _).trans (by simp [sixv,dgt])⟩
 case round=>
  obtain⟨k,hk,rfl,rfl,hb,hs,hblk⟩:=hrel;have hn0:0≤n / 10^k:=Int.ediv_nonneg (by omega) (pow10_pos k);have hn1:n / 10^k≤999999:=Int.le_trans (Int.ediv_le_self _ (by omega)) h2;by_cases hz:n / 10^k=0
  ·rw [sixv_done n k hz] at hblk;have hcv: ∀ c,(convert 39 9 (.slice (some ⟨w.heap.size,0,none⟩) 6 c)).run prog wr= .ok (.string ⟨(six n).toArray⟩) wr:=fun c=>
    run_convert_bytes_back (P:=prog) wr 39 9 5 ⟨w.heap.size,0,none⟩ c (six n) underlying39 underlying5 underlying9 (fun j hj=>by
     rw [Cr,World.cell?,hblk];simpa using sixv_six n j hj)
   have hl6:(six n).length=6:=rfl;go_wp2;go_ret;exact⟨ret_str (ba_append _ _),hb⟩
  ·have hk6:k<6:=by
    rcases Nat.lt_or_ge k 6 with h|h
    ·exact h
    ·exfalso;apply hz;obtain rfl:k=6:=by omega
     omega
   have hc:wr.cell? ⟨w.heap.size,5 - k,none⟩=some (.int .u8 48):=by simp [World.cell?,hblk,sixv_get n k hk6]
   have hf:wr.frozen? ⟨w.heap.size,5 - k,none⟩=false:=by simp [World.frozen?,hblk];omega
   go_wp2;go_roundw
   case rel=>exact⟨k+1,by omega,by go_num,by rw [Int.pow_succ,←Int.ediv_ediv_of_nonneg (pow10_pos k)],hb.setCell (μ _) _,by simpa using hs,by rw [Joins.block_setCell hblk,sixv_set n k hk6]⟩
   case measure=>simp [intOf];omega
theorem numbered_no (p:ByteArray) (n:Int) (w:World) (h:n<1∨999999<n):
  Calls prog 96 #[.string p,Vi Vk n] w fun e w'=>e= .returned (.string ⟨([]:List UInt8).toArray⟩)∧w'=w:=by
 rcases h with h|h
 ·go_enter func96,ntmps96;go_wp2;go_ret;exact⟨rfl,rfl⟩
 ·have h': ¬ n<1:=by omega
  go_enter func96,ntmps96;go_wp2;go_ret;exact⟨rfl,rfl⟩
theorem Jm (n:Int) (w:World):
  Calls prog 60 #[Vi Vk n] w fun e w'=>e= .returned (.string ⟨(Ad n).toArray⟩)∧Below w.heap.size w w':=by
 by_cases h:1≤n∧n≤999999
 ·rw [Ad,κ h];go_enter func60,ntmps60;go_wp2_with (go_at_call 96;refine(numbered_yes [115,101,103,45] n _ (by decide) h.1 h.2).mono ?_;rintro e w' ⟨rfl,hb⟩);go_ret;exact⟨rfl,hb⟩
 ·rw [Ad,γ h];go_enter func60,ntmps60;go_wp2_with (go_at_call 96;refine(numbered_no _ n _ (by omega)).mono ?_;rintro e w' ⟨rfl,rfl⟩);go_ret;exact⟨rfl,χ _ _⟩
def No (c:UInt8):Bool:=decide (48≤(c.toNat:Int))&&decide ((c.toNat:Int)≤57)
def Ka (l:List UInt8):Int:=l.foldl (fun n c=>10*n+((c.toNat:Int) - 48)) 0
def Hj (l:List UInt8):Int:=if l.length=6∧l.all No then Ka l else 0
theorem decOf_snoc (l:List UInt8) (c:UInt8):Ka (l++[c])=10*Ka l+((c.toNat:Int) - 48):=by simp [Ka]
theorem Od (c:UInt8):No c=true↔48≤(c.toNat:Int)∧(c.toNat:Int)≤57:=by simp [No]
theorem decOf_bd (l:List UInt8) (h:l.all No=true):0≤Ka l∧Ka l<10^l.length:=by
 revert h;refine snoc_ind (P:=fun l=>l.all No=true→0≤Ka l∧Ka l<10^l.length) (by simp [Ka]) ?_ l
 ·intro l c ih h;simp only [List.all_append,List.all_cons,List.all_nil,Bool.and_true,Bool.and_eq_true] at h;have h1:=ih h.1;have h2:=(Od c).1 h.2;rw [decOf_snoc];simp only [ζ,τ,Φ,Nat.zero_add,Int.pow_succ];omega
theorem number_any (l:List UInt8) (w:World):
  Calls prog 166 #[.string ⟨l.toArray⟩] w fun e w'=>e= .returned (Vi Vk (Hj l))∧Below w.heap.size w w':=by
 by_cases h6:l.length=6
 ·go_enter func166,ntmps166;go_wp2;obtain⟨c,w1,hcv,hb,hs,hc,hcell⟩:=conv_bytes w l;go_simp;go_wp2;have h6':=Qh h6;clear h6 hcv
  go_loop [3,12] (fun nv iv=> ∃ k:Nat,k≤6∧iv= Vi Vk k∧nv= Vi Vk (Ka (l.take k))∧(l.take k).all No=true) (fun _ iv=>(6 - intOf iv).toNat)
  case atStart=>exact⟨0,by omega,rfl,rfl,rfl⟩
  case round=>
   obtain⟨k,hk,rfl,rfl,hall⟩:=hrel;have h6:=h6'.out;have hbd:=decOf_bd _ hall;have hpw:(10:Int)^(l.take k).length≤1000000:=by
    rw [ω];have:min k l.length=0∨min k l.length=1∨min k l.length=2∨min k l.length=3∨min k l.length=4∨min k l.length=5∨min k l.length=6:=by omega
    rcases this with h|h|h|h|h|h|h<;>rw [h]<;>decide
   by_cases hk6:k<6
   ·obtain⟨x,hx,hts,hmem⟩:=Pj l k (by omega);have hcl:=hcell k x hx;have HT:=Qh hts;have hn1:Ka (l.take k)<1000000:=by omega
    have hn0:=hbd.1;have HA:=Qh hall;have hno:Hid (No x=false→Hj l=0):=Qh fun hf=>by
     rw [Hj,γ];rintro⟨_,ha⟩;have:=List.all_eq_true.1 ha x hmem;rw [hf] at this;cases this
    clear hpw hbd hall hx hts h6 hcell hmem;go_wp2
    ·go_ret
     have hd:No x=false:=by have h:57<(x.toNat:Int):=by omega
                            simp [No];omega
     exact⟨ret_int (hno.out hd).symm,hb⟩
    ·go_round
     case rel=>
      have hd:No x=true:=(Od x).2 ⟨by omega,by omega⟩;exact⟨k+1,by omega,by go_num,by rw [HT.out,decOf_snoc],by rw [HT.out];simp [HA.out,hd]⟩
     case measure=>simp [intOf];omega
    ·go_ret;have hd:No x=false:=by simp [No];omega
     exact⟨ret_int (hno.out hd).symm,hb⟩
   ·obtain rfl:k=6:=by omega
    go_wp2;go_ret;have e:l.take 6=l:=List.take_of_length_le (by omega);rw [e] at hall;exact⟨ret_int (by rw [Hj,κ ⟨h6,hall⟩,e]),hb⟩
 ·go_enter func166,ntmps166;go_wp2;go_ret;exact⟨ret_int (by rw [Hj,γ (by simp [h6])]),χ _ _⟩
theorem cutPrefix_l (l p:List UInt8) (w:World):Calls prog 165 #[.string ⟨l.toArray⟩,.string ⟨p.toArray⟩] w fun e w'=>
  e= .returned (.tuple #[.string ⟨(Lib.trimPrefix l p).toArray⟩,.bool (Lib.hasPrefix l p)])∧w=w':=
 (strings_CutPrefix ⟨l.toArray⟩ ⟨p.toArray⟩ w).mono fun _ _ ⟨h1,h2⟩=>⟨by simpa using h1,h2.symm⟩
def Eh:List UInt8:=[115,101,103,45]
def Dc:List UInt8:=[98,111,111,107,45]
def Aw:List UInt8:=[109,97,110,105,102,101,115,116]
def Ky:List UInt8:=[109,97,110,105,102,101,115,116,46,116,109,112]
def Jd (k n:Int):Int×Int:=if n=0 then (0,0) else (k,n)
def Bg (l:List UInt8):Int×Int:=
 if l=Aw then (1,0) else if l=Ky then (2,0)
 else if Lib.hasPrefix l Eh=true then Jd 3 (Hj (Lib.trimPrefix l Eh))
 else if Lib.hasPrefix l Dc=true then Jd 4 (Hj (Lib.trimPrefix l Dc)) else (0,0)
theorem Parse_any (l:List UInt8) (w:World):
  Calls prog 133 #[.string ⟨l.toArray⟩] w fun e w'=>e= .returned (.tuple #[Vi Vk (Bg l).1,Vi Vk (Bg l).2])∧Below w.heap.size w w':=by
 by_cases h1:l=Aw
 ·subst h1;have hp:Bg Aw=(1,0):=by decide
  rw [hp];unfold Aw;go_enter func133,ntmps133;go_wp2;go_ret2;exact⟨rfl,χ _ _⟩
 have h1':(l== [109,97,110,105,102,101,115,116])=false:=by simpa [Aw] using h1
 by_cases h2:l=Ky
 ·subst h2;have hp:Bg Ky=(2,0):=by decide
  rw [hp];unfold Ky;clear h1' h1;go_enter func133,ntmps133;go_wp2;go_ret2;exact⟨rfl,χ _ _⟩
 have h2':(l== [109,97,110,105,102,101,115,116,46,116,109,112])=false:=by simpa [Ky] using h2
 by_cases h3:Lib.hasPrefix l Eh=true
 ·have hp:Hid (Bg l=Jd 3 (Hj (Lib.trimPrefix l Eh))):=Qh (by rw [Bg,γ h1,γ h2,κ h3]);clear h1 h2;unfold Eh at h3;generalize hm:Hj (Lib.trimPrefix l Eh)=m at hp;have HM:=Qh hm;clear hm;by_cases h0:m=0
  all_goals
   go_enter func133,ntmps133;go_wp2_with (first|(go_at_call 165;(with_reducible refine(cutPrefix_l _ _ _).mono ?_);rintro e w' ⟨rfl,rfl⟩)|(go_at_call 166;refine(number_any _ _).mono ?_;rw [show Hj (Lib.trimPrefix l [115,101,103,45])=m from HM.out];rintro e w' ⟨rfl,hb⟩));go_ret2;exact⟨by rw [hp.out];simp [Jd,h0],hb⟩
 have h3':Lib.hasPrefix l [115,101,103,45]=false:=by simpa [Eh] using h3
 by_cases h4:Lib.hasPrefix l Dc=true
 ·have hp:Hid (Bg l=Jd 4 (Hj (Lib.trimPrefix l Dc))):=Qh (by rw [Bg,γ h1,γ h2,γ h3,κ h4]);clear h1 h2 h3;unfold Dc at h4;generalize hm:Hj (Lib.trimPrefix l Dc)=m at hp;have HM:=Qh hm;clear hm;by_cases h0:m=0
  all_goals
   go_enter func133,ntmps133;go_wp2_with (first|(go_at_call 165;(with_reducible refine(cutPrefix_l _ _ _).mono ?_);rintro e w' ⟨rfl,rfl⟩)|(go_at_call 166;refine(number_any _ _).mono ?_;rw [show Hj (Lib.trimPrefix l [98,111,111,107,45])=m from HM.out];rintro e w' ⟨rfl,hb⟩));go_ret2;exact⟨by rw [hp.out];simp [Jd,h0],hb⟩
 ·have h4':Lib.hasPrefix l [98,111,111,107,45]=false:=by simpa [Dc] using h4
  have hp:Hid (Bg l=(0,0)):=Qh (by rw [Bg,γ h1,γ h2,γ h3,γ h4]);clear h1 h2 h3 h4;go_enter func133,ntmps133;go_wp2_with (go_at_call 165;(with_reducible refine(cutPrefix_l _ _ _).mono ?_);rintro e w' ⟨rfl,rfl⟩);go_ret2;exact⟨by rw [hp.out];rfl,χ _ _⟩
def okCh (c:UInt8):Bool:=decide (97≤(c.toNat:Int))&&decide ((c.toNat:Int)≤122) || decide (48≤(c.toNat:Int))&&decide ((c.toNat:Int)≤57) || decide ((c.toNat:Int)=45) || decide ((c.toNat:Int)=46)
def Ao (l:List UInt8):Bool:=decide (1≤l.length)&&decide (l.length≤24)&&l.all okCh
theorem Right_any (l:List UInt8) (w:World):
  Calls prog 95 #[.string ⟨l.toArray⟩] w fun e w'=>e= .returned (.bool (Ao l))∧w=w':=by
 by_cases h0:l=[]
 ·subst h0;go_enter func95,ntmps95;go_wp2;go_ret;exact⟨rfl,rfl⟩
 have h0':l.isEmpty=false:=by simpa using h0
 have h0p:0<l.length:=Ψ.2 h0;by_cases h1:24<l.length
 ·have hp:Hid (Ao l=false):=Qh (by simp [Ao];omega);clear h0;go_enter func95,ntmps95;go_wp2;go_ret;exact⟨by rw [hp.out];rfl,rfl⟩
 clear h0;go_enter func95,ntmps95;go_wp2
 go_loop [14] (fun iv=> ∃ k:Nat,k≤l.length∧iv= Vi Vk k∧(l.take k).all okCh=true) (fun iv=>(l.length - intOf iv).toNat)
 case atStart=>exact⟨0,by omega,rfl,rfl⟩
 case round=>
  obtain⟨k,hk,rfl,hall⟩:=hrel;have HA:=Qh hall;by_cases hk6:k<l.length
  ·obtain⟨x,hx,hts,hmem⟩:=Pj l k hk6;have hy:=ba_get hx;have HT:=Qh hts;have hno:Hid (okCh x=false→Ao l=false):=Qh fun hf=>by
    rw [Ao];have:l.all okCh=false:=by
     rw [Bool.eq_false_iff];intro ha;have:=List.all_eq_true.1 ha x hmem;rw [hf] at this;cases this
    rw [this];simp
   clear hx hts hall hmem;by_cases hc:okCh x=true
   ·have hrel:Hid (∃ j:Nat,j≤l.length∧Value.int .i64 ((k:Int)+1)= Vi Vk j∧(l.take j).all okCh=true):=Qh ⟨k+1,hk6,by go_num,by rw [HT.out];simp [HA.out,hc]⟩;simp only [okCh,Bool.or_eq_true,Bool.and_eq_true,decide_eq_true_eq] at hc;go_wp2
    all_goals first|(go_round;(case rel=>exact hrel.out);(case measure=>simp [intOf];omega))|(exfalso;simp only [bne_iff_ne,ne_eq] at *;omega)
   ·have hc':okCh x=false:=by simpa using hc
    have hp:Hid (Ao l=false):=Qh (hno.out hc');clear hno hc;simp only [okCh,Bool.or_eq_false_iff,Bool.and_eq_false_iff,decide_eq_false_iff_not] at hc';go_wp2
    all_goals first|(go_ret;exact⟨by rw [hp.out];rfl,rfl⟩)|(exfalso;simp only [bne_eq_false_iff_eq] at *;omega)
  ·obtain rfl:k=l.length:=by omega
   rw [List.take_length] at hall;have hp:Hid (Ao l=true):=Qh (by simp [Ao,hall];omega);clear hall HA;go_wp2;go_ret;exact⟨by rw [hp.out];rfl,rfl⟩
section
open Go.WideAt Go.WideShapes
structure Bl where
 name:List UInt8
 data:List UInt8
 safe:Int
structure Af where
 files:List Bl
 room:Int
 fuse:Int
 down:Bool
 steps:Int
 reads:Int
def Fs (fs:List Bl):Prop:=fs.Pairwise fun a b=>bytesBefore a.name b.name=true
def Bf (fs:List Bl) (n:List UInt8):Option Bl:=fs.find? fun f=>f.name==n
def Dp (f:Bl):List Bl→List Bl
 | []=>[f]
 |y::r=>if bytesBefore f.name y.name then f::y::r else y::Dp f r
def takeF (n:List UInt8) (fs:List Bl):List Bl:=fs.filter fun f=> !(f.name==n)
def usedF (fs:List Bl):Nat:=(fs.map fun f=>f.data.length).sum
def Fd (n:List UInt8) (g:Bl→Bl) (fs:List Bl):List Bl:=fs.map fun f=>if f.name==n then g f else f
theorem bytes_asymm {a:List UInt8} (h:bytesBefore a b=true):bytesBefore b a=false:=by
 rcases hb:bytesBefore b a
 ·rfl
 ·have:=bytes_trans _ _ _ h hb;rw [bytes_irrefl] at this;cases this
theorem Ip {a:List UInt8} (h:bytesBefore a b=true):a≠b:=fun e=>by rw [e,bytes_irrefl] at h;cases h
theorem Og {f x:Bl}: ∀ {fs:List Bl},x∈Dp f fs↔x=f∨x∈fs
 | []=>by simp [Dp]
 |y::r=>by
  unfold Dp
  split
  ·simp
  ·simp only [Δ,Og (fs:=r)]
   constructor
   ·rintro(h|h|h)
    ·exact .inr (.inl h)
    ·exact .inl h
    ·exact .inr (.inr h)
   ·rintro(h|h|h)
    ·exact .inr (.inl h)
    ·exact .inl h
    ·exact .inr (.inr h)
theorem Hw (f:Bl): ∀ fs:List Bl,(Dp f fs).length=fs.length+1
 | []=>rfl
 |y::r=>by unfold Dp;split<;>simp [Hw f r]
theorem Fp (f:Bl): ∀ fs:List Bl,usedF (Dp f fs)=f.data.length+usedF fs
 | []=>by simp [usedF,Dp]
 |y::r=>by
  have h:=Fp f r
  unfold Dp
  split
  ·simp [usedF]
  ·simp only [usedF,List.map_cons,List.sum_cons] at h ⊢
   omega
theorem rise_put {f:Bl}: ∀ {fs:List Bl},Fs fs→(∀ x∈fs,x.name≠f.name)→Fs (Dp f fs)
 | [],_,_=>by simp [Fs,Dp]
 |y::r,h,hn=>by
  obtain⟨h1,h2⟩:=List.pairwise_cons.1 h
  unfold Dp
  split
  ·rename_i hb
   exact List.pairwise_cons.2 ⟨fun x hx=>by
    rcases Δ.1 hx with rfl|hx
    ·exact hb
    ·exact bytes_trans _ _ _ hb (h1 x hx),h⟩
  ·rename_i hb
   have hyf:bytesBefore y.name f.name=true:=by
    rcases bytes_total f.name y.name (Ne.symm (hn y (by simp))) with h3|h3
    ·exact absurd h3 hb
    ·exact h3
   exact List.pairwise_cons.2 ⟨fun x hx=>by
    rcases Og.1 hx with rfl|hx
    ·exact hyf
    ·exact h1 x hx,rise_put h2 fun x hx=>hn x (by simp [hx])⟩
theorem Kt {fs:List Bl} (h:Fs fs):Fs (takeF n fs):=h.sublist List.filter_sublist
theorem rise_set' {g:Bl→Bl} {fs:List Bl} (h:Fs fs) (hg: ∀ f∈fs,n=f.name→(g f).name=f.name):Fs (Fd n g fs):=by
 unfold Fs Fd at*;rw [List.pairwise_map];have hs: ∀ f∈fs,(if f.name==n then g f else f).name=f.name:=fun f hf=>by
  split
  ·rename_i hc;exact hg f hf (by simpa using (beq_iff_eq.1 hc).symm)
  ·rfl
 refine h.imp_of_mem fun {a b} ha hb hab=> ?_;rw [hs a ha,hs b hb];exact hab
theorem On {fs:List Bl} (h:Bf fs n=none):takeF n fs=fs:=by
 unfold takeF;rw [List.filter_eq_self];intro x hx;have:=List.find?_eq_none.1 h x hx;simpa using this
theorem rise_one: ∀ {fs:List Bl} {n:List UInt8} {f x:Bl},Fs fs→Bf fs n=some f→x∈fs→x.name=n→x=f
 | [],_,_,_,_,_,hx,_=>by cases hx
 |y::r,n,f,x,h,ha,hx,hn=>by
  obtain⟨h1,h2⟩:=List.pairwise_cons.1 h
  unfold Bf at ha
  rw [List.find?_cons] at ha
  by_cases hy:y.name=n
  ·rw [show (y.name==n)=true by simpa using hy] at ha
   simp only [Option.some.injEq] at ha
   rcases Δ.1 hx with rfl|hx
   ·exact ha
   ·exact absurd (hy.trans hn.symm) (Ip (h1 x hx))
  ·rw [show (y.name==n)=false by simpa using hy] at ha
   rcases Δ.1 hx with rfl|hx
   ·exact absurd hn hy
   ·exact rise_one h2 ha hx hn
theorem B8 {fs:List Bl}  {f:Bl} (h:Bf fs n=some f):f.name=n∧f∈fs:=by
 have h1:=List.find?_some h;exact⟨by simpa using h1,List.mem_of_find?_eq_some h⟩
theorem put_take: ∀ {fs:List Bl} {n:List UInt8} {f f':Bl},Fs fs→Bf fs n=some f→f'.name=n→Dp f' (takeF n fs)=Fd n (fun _=>f') fs
 | [],_,_,_,_,h,_=>by cases h
 |y::r,n,f,f',h,ha,hn=>by
  obtain⟨h1,h2⟩:=List.pairwise_cons.1 h
  unfold Bf at ha
  rw [List.find?_cons] at ha
  by_cases hy:y.name=n
  ·have e1:takeF n (y::r)=r:=by
    unfold takeF;rw [List.filter_cons,show (y.name==n)=true by simpa using hy];simp only [Bool.not_true,Bool.false_eq_true,if_false];rw [List.filter_eq_self];intro x hx;have:=Ip (h1 x hx);rw [hy] at this;simpa using this.symm
   have e2:Fd n (fun _=>f') (y::r)=f'::r:=by
    unfold Fd;rw [List.map_cons,show (y.name==n)=true by simpa using hy];simp only [if_true];congr 1;rw [List.map_congr_left (g:=id) (fun x hx=>by
     have:=Ip (h1 x hx);rw [hy] at this;simp [this.symm])]
    simp
   rw [e1,e2]
   match r,h1 with
   | [],_=>rfl
   |z::r',h1=>rw [Dp,κ (by rw [hn,←hy];exact h1 z (by simp))]
  ·rw [show (y.name==n)=false by simpa using hy] at ha;have e1:takeF n (y::r)=y::takeF n r:=by
    unfold takeF;rw [List.filter_cons,show (y.name==n)=false by simpa using hy];rfl
   have e2:Fd n (fun _=>f') (y::r)=y::Fd n (fun _=>f') r:=by
    unfold Fd;rw [List.map_cons,show (y.name==n)=false by simpa using hy];rfl
   have hyf:=h1 f (List.mem_of_find?_eq_some ha);have hfn:f.name=n:=by have:=List.find?_some ha;simpa using this
   rw [e1,e2,Dp,γ (by rw [hn,←hfn,bytes_asymm hyf];simp),put_take h2 ha hn]
structure Ls where
 k:Int
 name:List UInt8
 to:List UInt8
 b:List UInt8
 n:Int
 m:Int
 keep:List Int
def Ge (d:Af) (o:Ls):Int:=
 if d.down then 3
 else if !Ao o.name || (decide (o.k=3)&& !Ao o.to) then 50
 else match Bf d.files o.name with
  |none=>if decide (o.k=0) then (if decide (700≤d.files.length) then 53 else 0) else 51
  |some f=>
   if decide (o.k=0) then 52
   else if decide (o.k=1)&&decide (d.room - (usedF d.files:Int)<(o.b.length:Int)) then 54
   else if decide (o.k=5)&&(decide (o.n<0) || decide ((f.data.length:Int)<o.n)) then 1
   else if decide (o.k=6)&&(decide (o.n<0) || decide (o.m<0) || decide ((f.data.length:Int)<o.n) || decide ((f.data.length:Int) - o.n<o.m)) then 1
   else 0
def Ll (o:Ls) (f:Bl):Bl:=
 if o.k=1 then {f with data:=f.data++o.b}
 else if o.k=2 then {f with safe:=(f.data.length:Int)}
 else if o.k=3 then {f with name:=o.to}
 else if o.k=5 then {f with data:=f.data.take o.n.toNat,safe:=if o.n<f.safe then o.n else f.safe}
 else f
def Iq (d:Af) (o:Ls):Af:=
 if o.k=0 then {d with files:=Dp ⟨o.name,[],0⟩ d.files}
 else match Bf d.files o.name with
  |none=>d
  |some f=>
   if o.k=4 then {d with files:=takeF o.name d.files}
   else if o.k=3 then {d with files:=Dp (Ll o f) (takeF o.to (takeF o.name d.files))}
   else {d with files:=Dp (Ll o f) (takeF o.name d.files)}
def Jz (f:Bl) (k:Int):Int:=if 0<k then (if (f.data.length:Int) - f.safe<k then (f.data.length:Int) else f.safe+k) else f.safe
def restF:List Bl→List Int→List Bl
 | [],_=>[]
 |f::r,ks=>⟨f.name,f.data.take (Jz f (ks.headD 0)).toNat,Jz f (ks.headD 0)⟩::restF r ks.tail
def Bi (d:Af) (o:Ls):Af×List UInt8×Int×Int:=
 if o.k=8 then ({d with files:=restF d.files o.keep,down:=false,fuse:=0},[],0,0)
 else if o.k=9 then ({d with fuse:=if 0<o.n then o.n else 0},[],0,0)
 else if o.k<0∨9<o.k then (d,[],0,0)
 else if Ge d o≠0 then (d,[],0,Ge d o)
 else if o.k=6 then ({d with reads:=IntKind.i64.wrap (d.reads+o.m)},match Bf d.files o.name with|none=>[]|some f=>(f.data.drop o.n.toNat).take o.m.toNat,0,0)
 else if o.k=7 then (d,[],match Bf d.files o.name with|none=>0|some f=>(f.data.length:Int),0)
 else if d.fuse=1 then ((if o.k=1 then Iq {d with fuse:=0,down:=true} o else {d with fuse:=0,down:=true}),[],0,3)
 else (Iq {d with fuse:=if 1<d.fuse then d.fuse - 1 else d.fuse,steps:=d.steps+1} o,[],0,0)
structure A0 (d:Af):Prop where
 rise:Fs d.files
 names: ∀ f∈d.files,Ao f.name=true
 safe: ∀ f∈d.files,0≤f.safe∧f.safe≤(f.data.length:Int)
 count:d.files.length≤700
 room:0≤d.room∧d.room≤67108864
 used:(usedF d.files:Int)≤d.room
 fuse:0≤d.fuse∧d.fuse≤9223372036854775807
 steps:0≤d.steps
 reads: -9223372036854775808≤d.reads∧d.reads≤9223372036854775807
theorem Ea: ∀ {fs:List Bl} {n:List UInt8} {f:Bl},Fs fs→Bf fs n=some f→usedF (takeF n fs)+f.data.length=usedF fs
 | [],_,_,_,h=>by cases h
 |y::r,n,f,h,ha=>by
  obtain⟨h1,h2⟩:=List.pairwise_cons.1 h
  unfold Bf at ha
  rw [List.find?_cons] at ha
  by_cases hy:y.name=n
  ·rw [show (y.name==n)=true by simpa using hy] at ha
   simp only [Option.some.injEq] at ha
   subst ha
   have e1:takeF n (y::r)=r:=by
    unfold takeF;rw [List.filter_cons,show (y.name==n)=true by simpa using hy];simp only [Bool.not_true,Bool.false_eq_true,if_false];rw [List.filter_eq_self];intro x hx;have:=Ip (h1 x hx);rw [hy] at this;simpa using this.symm
   rw [e1];simp only [usedF,List.map_cons,List.sum_cons];omega
  ·rw [show (y.name==n)=false by simpa using hy] at ha;have e1:takeF n (y::r)=y::takeF n r:=by
    unfold takeF;rw [List.filter_cons,show (y.name==n)=false by simpa using hy];rfl
   have:=Ea h2 ha;rw [e1];simp only [usedF,List.map_cons,List.sum_cons] at this ⊢;omega
theorem Lq {fs:List Bl}  (h:Bf fs n=none):usedF (takeF n fs)=usedF fs:=by rw [On h]
theorem If {fs:List Bl}  {f f':Bl} (h:Fs fs) (ha:Bf fs n=some f) (hn:f'.name=n):usedF (Fd n (fun _=>f') fs)+f.data.length=usedF fs+f'.data.length:=by
 have h1:=Ea h ha;rw [←put_take h ha hn,Fp];omega
theorem Fg {fs:List Bl} {f:Bl} (h:f∈fs):f.data.length≤usedF fs:=by
 induction fs with
 |nil=>cases h
 |cons y r ih=>
  simp only [usedF,List.map_cons,List.sum_cons] at ih ⊢;rcases Δ.1 h with rfl|h
  ·omega
  ·have:=ih h;omega
theorem mem_setF {f' x:Bl} {fs:List Bl} (h:x∈Fd n (fun _=>f') fs):x=f'∨x∈fs:=by
 obtain⟨y,hy,rfl⟩:=List.mem_map.1 h;by_cases hc:(y.name==n)=true
 ·rw [κ hc];exact .inl rfl
 ·rw [γ hc];exact .inr hy
theorem A0.files {d:Af} (h:A0 d) {fs:List Bl} (h1:Fs fs) (h2: ∀ f∈fs,Ao f.name=true) (h3: ∀ f∈fs,0≤f.safe∧f.safe≤(f.data.length:Int)) (h4:fs.length≤700) (h5:(usedF fs:Int)≤d.room):A0 {d with files:=fs}:=
 ⟨h1,h2,h3,h4,h.room,h5,h.fuse,h.steps,h.reads⟩
theorem A0.setFile {d:Af} (h:A0 d)  {f f':Bl} (ha:Bf d.files n=some f) (hn:f'.name=n) (hs:0≤f'.safe∧f'.safe≤(f'.data.length:Int)) (hu:(usedF d.files:Int)+f'.data.length≤d.room+f.data.length):A0 {d with files:=Fd n (fun _=>f') d.files}:=by
 have hu':=If h.rise ha hn;obtain⟨hfn,hfm⟩:=B8 ha;refine h.files (rise_set' h.rise fun y hy hyn=>by rw [hn,hyn]) (fun x hx=> ?_) (fun x hx=> ?_) (by simp [Fd];exact h.count) (by omega)
 ·rcases mem_setF hx with rfl|hx
  ·rw [hn,←hfn];exact h.names f hfm
  ·exact h.names x hx
 ·rcases mem_setF hx with rfl|hx
  ·exact hs
  ·exact h.safe x hx
theorem A0.take {d:Af} (h:A0 d) (n:List UInt8):A0 {d with files:=takeF n d.files}:=by
 have hl:(takeF n d.files).length≤d.files.length:=List.length_filter_le _ _;refine h.files (Kt h.rise) (fun x hx=>h.names x (List.mem_filter.1 hx).1) (fun x hx=>h.safe x (List.mem_filter.1 hx).1) (η hl h.count) ?_;rcases ha:Bf d.files n with _|f
 ·rw [On ha];exact h.used
 ·have:=Ea h.rise ha;have:=h.used;omega
theorem A0.put {d:Af} (h:A0 d) {f:Bl} (hr:Ao f.name=true) (hs:0≤f.safe∧f.safe≤(f.data.length:Int)) (hn: ∀ x∈d.files,x.name≠f.name) (hc:d.files.length<700) (hu:(usedF d.files:Int)+f.data.length≤d.room):A0 {d with files:=Dp f d.files}:=by
 refine h.files (rise_put h.rise hn) (fun x hx=> ?_) (fun x hx=> ?_) (by rw [Hw];omega) (by rw [Fp];omega)
 ·rcases Og.1 hx with rfl|hx
  ·exact hr
  ·exact h.names x hx
 ·rcases Og.1 hx with rfl|hx
  ·exact hs
  ·exact h.safe x hx
def Ar (d:Af):Af:=if d.fuse=1 then {d with fuse:=0,down:=true} else {d with fuse:=if 1<d.fuse then d.fuse - 1 else d.fuse,steps:=d.steps+1}
theorem Bo (d:Af):(Ar d).files=d.files:=by unfold Ar;split<;>rfl
theorem M7 (d:Af):(Ar d).room=d.room:=by unfold Ar;split<;>rfl
theorem A0.step {d:Af} (h:A0 d):A0 (Ar d):=by
 have hf:=h.fuse;have hs:=h.steps;unfold Ar;split
 ·exact⟨h.rise,h.names,h.safe,h.count,h.room,h.used,⟨by simp,by simp⟩,hs,h.reads⟩
 ·refine⟨h.rise,h.names,h.safe,h.count,h.room,h.used,?_,?_,h.reads⟩
  ·show 0≤(if 1<d.fuse then d.fuse - 1 else d.fuse)∧(if 1<d.fuse then d.fuse - 1 else d.fuse)≤9223372036854775807;split<;>omega
  ·show 0≤d.steps+1;omega
def Ak (n:List UInt8):Ls:=⟨0,n,[],[],0,0,[]⟩
def Ae (n b:List UInt8):Ls:=⟨1,n,[],b,0,0,[]⟩
def Ag (n:List UInt8):Ls:=⟨2,n,[],[],0,0,[]⟩
def An (n t:List UInt8):Ls:=⟨3,n,t,[],0,0,[]⟩
def Bb (n:List UInt8):Ls:=⟨4,n,[],[],0,0,[]⟩
def Dk (n:List UInt8) (k:Int):Ls:=⟨5,n,[],[],k,0,[]⟩
def Ek (n:List UInt8):Ls:=⟨7,n,[],[],0,0,[]⟩
def opFuse (n:Int):Ls:=⟨9,[],[],[],n,0,[]⟩
def Av (d:Af) (n:List UInt8):Int:=if d.down then 3 else if !Ao n then 50 else if (Bf d.files n).isNone then 51 else 0
theorem Kq {d:Af}  (h:Av d n=0):d.down=false∧Ao n=true∧ ∃ f,Bf d.files n=some f:=by
 unfold Av at h;rcases hd:d.down
 ·rcases hr:Ao n
  ·rw [hd,hr] at h;simp at h
  ·rcases ha:Bf d.files n with _|f
   ·rw [hd,hr,ha] at h;simp at h
   ·exact⟨rfl,rfl,f,rfl⟩
 ·rw [hd] at h;simp at h
theorem openE_cases (d:Af) (n:List UInt8):(Av d n=3∧d.down=true)∨(Av d n=50∧d.down=false∧Ao n=false)∨(Av d n=51∧d.down=false∧Ao n=true∧Bf d.files n=none)∨(Av d n=0∧d.down=false∧Ao n=true∧ ∃ f,Bf d.files n=some f):=by
 unfold Av;rcases hd:d.down
 ·rcases hr:Ao n
  ·exact .inr (.inl ⟨by simp,rfl,rfl⟩)
  ·rcases ha:Bf d.files n with _|f
   ·exact .inr (.inr (.inl ⟨by simp,rfl,rfl,rfl⟩))
   ·exact .inr (.inr (.inr ⟨by simp,rfl,rfl,f,rfl⟩))
 ·exact .inl ⟨by simp,rfl⟩
theorem Di {d:Af} {o:Ls} (hk:0≤o.k∧o.k≤7) (hb:Ge d o≠0):Bi d o=(d,[],0,Ge d o):=by
 unfold Bi;rw [γ (by omega),γ (by omega),γ (by omega),κ hb]
theorem Is {d:Af} {o:Ls} (hk:0≤o.k∧o.k≤5) (hb:Ge d o=0):Bi d o=(if d.fuse=1 then (if o.k=1 then Iq (Ar d) o else Ar d) else Iq (Ar d) o,[],0,if d.fuse=1 then 3 else 0):=by
 unfold Bi Ar;rw [γ (by omega),γ (by omega),γ (by omega),γ (by simp [hb]),γ (by omega),γ (by omega)];by_cases hf:d.fuse=1
 ·rw [κ hf,κ hf,κ hf,κ hf]
 ·rw [γ hf,γ hf,γ hf,γ hf]
theorem Mr (d:Af) (n:List UInt8):Ge d (Ag n)=Av d n:=by
 unfold Ge Av Ag;cases d.down
 ·cases Ao n
  ·rfl
  ·cases Bf d.files n<;>rfl
 ·rfl
theorem Mq (d:Af) (n:List UInt8):Ge d (Bb n)=Av d n:=by
 unfold Ge Av Bb;cases d.down
 ·cases Ao n
  ·rfl
  ·cases Bf d.files n<;>rfl
 ·rfl
theorem bar_size (d:Af) (n:List UInt8):Ge d (Ek n)=Av d n:=by
 unfold Ge Av Ek;cases d.down
 ·cases Ao n
  ·rfl
  ·cases Bf d.files n<;>rfl
 ·rfl
theorem bar_cut {d:Af}  {k:Int}:Ge d (Dk n k)=if Av d n≠0 then Av d n else match Bf d.files n with|none=>0|some f=>if decide (k<0) || decide ((f.data.length:Int)<k) then 1 else 0:=by
 unfold Ge Av Dk;cases d.down
 ·cases Ao n
  ·rfl
  ·cases Bf d.files n<;>rfl
 ·rfl
theorem Ja {d:Af} :Ge d (Ae n b)=if Av d n≠0 then Av d n else if decide (d.room - (usedF d.files:Int)<(b.length:Int)) then 54 else 0:=by
 unfold Ge Av Ae;cases d.down
 ·cases Ao n
  ·rfl
  ·cases Bf d.files n
   ·rfl
   ·simp
 ·rfl
theorem Jb {d:Af} :Ge d (Ak n)=if Av d n=0 then 52 else if Av d n≠51 then Av d n else if decide (700≤d.files.length) then 53 else 0:=by
 unfold Ge Av Ak;cases d.down
 ·cases Ao n
  ·rfl
  ·cases Bf d.files n<;>rfl
 ·rfl
theorem Kf {d:Af} :Ge d (An n t)=if (Av d n=0∨Av d n=51)∧Ao t=false then 50 else Av d n:=by
 unfold Ge Av An;cases d.down
 ·cases Ao n
  ·cases Ao t<;>rfl
  ·cases Ao t
   ·cases Bf d.files n<;>rfl
   ·cases Bf d.files n<;>rfl
 ·rfl
end
def As (A:Nat→Prop) (w:World) (v:Value) (l:List UInt8):Prop:=
 ∃ oa cap,v= .slice oa l.length cap∧l.length≤cap∧(l≠ []→ ∃ b off,oa=some ⟨b,off,none⟩∧A b∧ ∀ (i:Nat) x,l[i]? =some x→w.cell? ⟨b,off+i,none⟩=some (.int .u8 (x.toNat:Int)))
theorem As.brow (h:As A w v l):B7 w v l:=by
 obtain⟨oa,cap,h1,h2,h3⟩:=h;exact⟨oa,cap,h1,h2,fun hn=>by obtain⟨b,off,e,_,hc⟩:=h3 hn;exact⟨b,off,e,hc⟩⟩
theorem As.mono (h:As A w v l) (hA: ∀ k,A k→A' k):As A' w v l:=by
 obtain⟨oa,cap,h1,h2,h3⟩:=h;exact⟨oa,cap,h1,h2,fun hn=>by obtain⟨b,off,e,ha,hc⟩:=h3 hn;exact⟨b,off,e,hA b ha,hc⟩⟩
theorem As.below (h:As A w v l) (hb:Below w.heap.size w w'):As A w' v l:=by
 obtain⟨oa,cap,h1,h2,h3⟩:=h;exact⟨oa,cap,h1,h2,fun hn=>by obtain⟨b,off,e,ha,hc⟩:=h3 hn;exact⟨b,off,e,ha,fun i x hx=>cell_later hb (hc i x hx)⟩⟩
theorem F8 (h:w.ownsRow B 5 1 v l.length (Lib.byteCells l)) (hA: ∀ k,B≤k→A k):As A w v l:=by
 by_cases hn:l=[]
 ·subst hn;obtain⟨oa,cap,rfl,h1,_⟩:=Aj h;exact⟨oa,cap,rfl,h1,fun h=>absurd rfl h⟩
 ·obtain⟨g,cap,rfl,hB,_,h1,_,h3⟩:=Dr h (Ψ.2 hn);exact⟨_,cap,rfl,h1,fun _=>⟨g,0,rfl,hA g hB,fun i x hi=>by rw [Nat.zero_add];exact h3 i _ (by rw [Lib.byteCells,List.getElem?_map,hi];rfl)⟩⟩
section
open Go.Maps (Keyed string_keyed)
structure Ab (S:Nat→Prop) (w w':World):Prop where
 os:w'.os=w.os
 tape:w'.tape=w.tape
 output:w'.output=w.output
 size:w.heap.size≤w'.heap.size
 block: ∀ k,k<w.heap.size→ ¬ S k→w'.heap[k]? =w.heap[k]?
theorem Ab.refl (S:Nat→Prop) (w:World):Ab S w w:=⟨rfl,rfl,rfl,μ _,fun _ _ _=>rfl⟩
theorem Ab.below (h:Below w.heap.size w w'):Ab S w w':=⟨h.os,h.tape,h.output,h.size,fun k hk _=>h.block k hk⟩
theorem Ab.trans {S':Nat→Prop} {a b c:World} (h:Ab S a b) (k:Ab S' b c) (hs: ∀ i,S' i→S i∨a.heap.size≤i):Ab S a c:=
 ⟨k.os.trans h.os,k.tape.trans h.tape,k.output.trans h.output,η h.size k.size,fun i hi hn=>(k.block i (Nat.lt_of_lt_of_le hi h.size) fun hS=>by
  rcases hs i hS with h1|h1
  ·exact hn h1
  ·omega).trans (h.block i hi hn)⟩
theorem Ab.mono {S':Nat→Prop} (h:Ab S w w') (hs: ∀ i,S i→S' i):Ab S' w w':=⟨h.os,h.tape,h.output,h.size,fun k hk hn=>h.block k hk fun hS=>hn (hs k hS)⟩
theorem Ab.grown {row:Option Nat} (h:w.grownBy w' row) (hr: ∀ k,row=some k→S k):Ab S w w':=
 ⟨h.os,h.tape,h.output,h.size,fun k hk hn=>h.block k hk fun e=>hn (hr k e.symm)⟩
theorem Ab.setCell (w:World) (a:Addr) (v:Value) (hS:S a.block):Ab S w (w.setCell a v):=
 ⟨rfl,rfl,rfl,by simp [World.setCell],fun k _ hn=>by
  simp only [World.setCell]
  rw [Array.getElem?_modify,γ (fun e=>hn (by rw [←e];exact hS))]⟩
theorem Ab.cell (h:Ab S w w') {a:Addr}  (hc:w.cell? a=some v) (hn: ¬ S a.block):w'.cell? a=some v:=by
 rw [World.cell?_of_block (h.block a.block (by
  unfold World.cell? at hc;rcases hx:w.heap[a.block]? with _|x
  ·rw [hx] at hc;simp at hc
  ·exact(δ.1 hx).1) hn)]
 exact hc
def Be:Value→Option Nat
 |.slice (some a) _ cap=>if cap=0 then none else some a.block
 |_=>none
def Ju (w:World) (v:Value) (l:List UInt8):Prop:=
 (l=[]∧ ∃ ao,v= .slice ao 0 0)∨
 ∃ g cap cur,v= .slice (some ⟨g,0,none⟩) l.length cap∧0<cap∧w.heap[g]? =some (.cells cur 5 (0,0))∧l.length≤cap∧cap≤maxLen∧cap≤cur.size∧cur.toList.take l.length=Lib.byteCells l
theorem Ju.shape (h:Ju w v l): ∃ ao cap,v= .slice ao l.length cap∧l.length≤cap∧cap≤maxLen:=by
 rcases h with⟨rfl,ao,rfl⟩|⟨g,cap,cur,rfl,_,_,h1,h2,_⟩
 ·exact⟨ao,0,rfl,μ _,by decide⟩
 ·exact⟨_,cap,rfl,h1,h2⟩
theorem Ju.lt (h:Ju w v l)  (hg:Be v=some g):g<w.heap.size:=by
 rcases h with⟨rfl,ao,rfl⟩|⟨g',cap,cur,rfl,h0,h1,_⟩
 ·cases ao<;>simp [Be] at hg
 ·simp only [Be,γ (show ¬ cap=0 by omega),Option.some.injEq] at hg;subst hg;exact(δ.1 h1).1
theorem Ju.kept (h:Ju w v l) (hk: ∀ g,Be v=some g→w'.heap[g]? =w.heap[g]?):Ju w' v l:=by
 rcases h with h|⟨g,cap,cur,rfl,h0,h1,h2,h3,h4⟩
 ·exact .inl h
 ·exact .inr ⟨g,cap,cur,rfl,h0,by rw [hk g (by simp only [Be,γ (show ¬ cap=0 by omega)])];exact h1,h2,h3,h4⟩
theorem Ju.brow (h:Ju w v l):B7 w v l:=by
 rcases h with⟨rfl,ao,rfl⟩|⟨g,cap,cur,rfl,h0,h1,h2,h3,h4,h5⟩
 ·exact⟨ao,0,rfl,μ _,fun h=>absurd rfl h⟩
 ·refine⟨_,cap,rfl,h2,fun _=>⟨g,0,rfl,fun i x hi=> ?_⟩⟩;have hl:=getElem?_lt hi;have e:cur.toList[i]? =some (.int .u8 (x.toNat:Int)):=by
   rw [←List.getElem?_take_of_lt hl,h5,Lib.byteCells,List.getElem?_map,hi];rfl
  rw [Nat.zero_add];simp only [World.cell?,h1];simpa using e
theorem datAt_cut (h:Ju w v l) (n:Nat) (hn:n≤l.length): ∃ ao cap,v= .slice ao l.length cap∧Ju w (.slice ao n n) (l.take n)∧(∀ g,Be (.slice ao n n)=some g→Be v=some g):=by
 rcases h with⟨rfl,ao,rfl⟩|⟨g,cap,cur,rfl,h0,h1,h2,h3,h4,h5⟩
 ·have:n=0:=by simpa using hn
  subst this;exact⟨ao,0,rfl,.inl ⟨by simp,ao,rfl⟩,fun g h=>h⟩
 ·refine⟨_,cap,rfl,?_,fun k hk=> ?_⟩
  ·by_cases hz:n=0
   ·subst hz;exact .inl ⟨by simp,_,rfl⟩
   ·have hl:(l.take n).length=n:=by simp;omega
    refine .inr ⟨g,n,cur,by rw [hl],by omega,h1,by omega,by omega,by omega,?_⟩;rw [hl];have:(cur.toList.take l.length).take n=(Lib.byteCells l).take n:=by rw [h5]
    rw [List.take_take,Nat.min_eq_left hn] at this;rw [this,Lib.byteCells,Lib.byteCells,List.map_take]
  ·by_cases hz:n=0
   ·simp [Be,hz] at hk
   ·simp only [Be,γ hz,Option.some.injEq] at hk;simp only [Be,γ (show ¬ cap=0 by omega),hk]
theorem Ob (a b:List UInt8):Lib.byteCells (a++b)=Lib.byteCells a++Lib.byteCells b:=by simp [Lib.byteCells]
theorem Do (a:List UInt8):(Lib.byteCells a).length=a.length:=by simp [Lib.byteCells]
theorem byteCells_one (a:List UInt8): ∀ u∈Lib.byteCells a,u.oneCell'=true:=fun u hu=>by
 obtain⟨_,_,rfl⟩:=List.mem_map.1 hu
 rfl
theorem src_brow (h:B7 w v l):Src prog 1 39 v l.length (Lib.byteCells l) w:=by
 obtain⟨oa,cap,rfl,h1,h2⟩:=h;by_cases hl:l=[]
 ·subst hl;rcases oa with _|a
  ·exact Src.ofNil w underlying39 cap
  ·exact Src.ofSlice w underlying39 a 0 cap [] rfl (fun _ _ h=>by simp at h) (fun _ h=>by cases h)
 ·obtain⟨b,off,rfl,hc⟩:=h2 hl;refine Src.ofSlice w underlying39 ⟨b,off,none⟩ l.length cap (Lib.byteCells l) (by rw [Do];omega) (fun j u hj=> ?_) (byteCells_one l);rw [Cr];rw [Lib.byteCells,List.getElem?_map] at hj;obtain⟨x,hx,rfl⟩:=Option.map_eq_some_iff.1 hj;exact hc j x hx
theorem append_dat {x:Value} {m:List UInt8} (h:Ju w v l) (hx:B7 w x m) (hl:l.length+m.length≤140737488355328) (ty:TypeId):
  ∃ v' w',(Builtin.append_ #[39,39] ty #[v,x]).run prog w= .ok v' w'∧Ju w' v' (l++m)∧w.grownBy w' (Be v)∧(∀ g,Be v'=some g→Be v=some g∨g=w.heap.size)∧v'.oneCell'=true:=by
 obtain⟨i0,hi,hz0,hz1,hz2⟩:=info_parts infoByteB;have hs:=src_brow hx;by_cases hm:m=[]
 ·subst hm;obtain⟨ao,cap,rfl,hc,_⟩:=h.shape;exact⟨_,w,run_append_nothing w 39 39 ty 5 i0 underlying39 hi ao l.length cap hc x (by rw [hz1];exact hs),by rw [List.append_nil];exact h,⟨rfl,rfl,rfl,μ _,fun _ _ _=>rfl⟩,fun g h=> .inl h,rfl⟩
 have hmp:0<m.length:=Ψ.2 hm
 have grow: ∀ (ao:Option Addr) (cap:Nat),v= .slice ao l.length cap→cap<l.length+m.length→(Builtin.firstCells 1 l.length (.slice ao l.length cap)).run prog w.drew= .ok (Lib.byteCells l).toArray w.drew→
   ∃ v' w',(Builtin.append_ #[39,39] ty #[v,x]).run prog w= .ok v' w'∧Ju w' v' (l++m)∧w.grownBy w' (Be v)∧(∀ g,Be v'=some g→Be v=some g∨g=w.heap.size)∧v'.oneCell'=true:=by
  rintro ao cap rfl hcap hold;have hnx:=nextslicecap_le hcap;refine⟨_,_,run_append_grow_src w 39 39 ty 5 i0 (.int .u8 0) underlying39 hi hz0 ao l.length cap (Lib.byteCells l) (by rw [hz1];exact hold) x m.length (Lib.byteCells m) (by rw [hz1];exact hs) hcap (by omega) (by rw [hz2];omega),?_,?_,?_,rfl⟩
  ·have hge:=grownCap_ge w (l.length+m.length) cap 5;refine .inr ⟨w.heap.size,_,_,by rw [ζ],by omega,σ w.drew _,by rw [ζ];omega,grownCap_le_maxLen w _ _ _ (by unfold maxLen;omega),?_,?_⟩
   ·simp [Builtin.zeroCells,Value.cells,Do];omega
   ·rw [←Ob];simp only [Array.toList_append];rw [List.take_append_of_le_length (by rw [Do];exact μ _)];rw [List.take_of_length_le (by rw [Do];exact μ _)]
  ·exact⟨rfl,rfl,rfl,by simp,fun k hk _=>heap_alloc_old w.drew _ hk⟩
  ·intro g hg;have hge:=grownCap_ge w (l.length+m.length) cap 5;simp only [Be,γ (show ¬ grownCap w (l.length+m.length) cap 5=0 by omega),Option.some.injEq] at hg;exact .inr hg.symm
 rcases h with⟨rfl,ao,rfl⟩|⟨g,cap,cur,rfl,h0,h1,h2,h3,h4,h5⟩
 ·exact grow ao 0 rfl (by simpa using hmp) (by
   cases ao
   ·exact run_firstCells_none w.drew 1 0 0 0
   ·simpa [Lib.byteCells] using run_firstCells_some (P:=prog) w.drew 1 0 _ 0 0 [] rfl (fun _ _ h=>by simp at h))
 ·have hcur: ∀ j u,(Lib.byteCells l)[j]? =some u→w.cell? ⟨g,j,none⟩=some u:=fun j u hj=>by
   have hjl:j<l.length:=by have:=getElem?_lt hj;rwa [Do] at this
   rw [←h5,List.getElem?_take_of_lt hjl] at hj;simp only [World.cell?,h1];simpa using hj
  by_cases hroom:l.length+m.length≤cap
  ·obtain⟨oa,xc,rfl,_,hxc⟩:=hx;obtain⟨b,off,rfl,hc⟩:=hxc hm;refine⟨_,_,run_append_room w 39 ty 5 i0 underlying39 hi g l.length cap cur h1 ⟨b,off,none⟩ m.length xc (Lib.byteCells m) (by rw [Do,hz1];omega) (fun j u hj=> ?_) (byteCells_one m) hroom (by rw [Do,hz1];omega),?_,?_,?_,rfl⟩
   ·rw [Cr];rw [Lib.byteCells,List.getElem?_map] at hj;obtain⟨y,hy,rfl⟩:=Option.map_eq_some_iff.1 hj;exact hc j y hy
   ·refine .inr ⟨g,cap,_,by rw [ζ],h0,setRow_heap w g _ _ _ _ h1,by rw [ζ];exact hroom,h3,?_,?_⟩
    ·simp [hz1,Do];omega
    ·rw [hz1,Nat.mul_one,h5,Ob];simp only [ζ];rw [List.take_append_of_le_length (by simp [Do])];rw [List.take_of_length_le (by simp [Do])]
   ·exact⟨rfl,rfl,rfl,by simp [World.setRow],fun k hk hne=>setRow_other _ _ _ _ fun e=>hne (by rw [e];simp only [Be,γ (show ¬ cap=0 by omega)])⟩
   ·intro k hk;exact .inl hk
  ·exact grow _ cap rfl (by omega) (by
    exact run_firstCells_some (P:=prog) w.drew 1 l.length ⟨g,0,none⟩ l.length cap (Lib.byteCells l) (by rw [Do];omega) (fun j u hj=>by rw [Cr,Nat.zero_add];exact hcur j u hj))
open Go.Maps (Keyed string_keyed)
structure Aq where
 fil:Bl
 blk:Nat
 sl:Value
def Js (L:List Aq):List Bl:=L.map (·.fil)
def It (L:List Aq):List (Lit×DataW Unit):=L.map fun s=>(.string s.fil.name,.lit (.int .u64 (s.blk:Int)))
def D9 (L:List Aq) (n:List UInt8):Option Aq:=L.find? fun s=>s.fil.name==n
def N2 (s:Aq):List Aq→List Aq
 | []=>[s]
 |y::r=>if bytesBefore s.fil.name y.fil.name then s::y::r else y::N2 s r
def takeS (n:List UInt8) (L:List Aq):List Aq:=L.filter fun s=> !(s.fil.name==n)
def setS (n:List UInt8) (x:Aq) (L:List Aq):List Aq:=L.map fun s=>if s.fil.name==n then x else s
theorem fils_put (s:Aq): ∀ L:List Aq,Js (N2 s L)=Dp s.fil (Js L)
 | []=>rfl
 |y::r=>by
  have h:=fils_put s r
  simp only [Js] at h ⊢
  unfold N2
  rw [List.map_cons,Dp]
  split
  ·rfl
  ·rw [List.map_cons,h]
theorem Mi (n:List UInt8): ∀ L:List Aq,Js (takeS n L)=takeF n (Js L)
 | []=>rfl
 |y::r=>by
  have h:=Mi n r
  simp only [Js,takeS,takeF] at h ⊢
  rw [List.filter_cons,List.map_cons,List.filter_cons]
  split
  ·rw [List.map_cons,h]
  ·exact h
theorem fils_set (n:List UInt8) (x:Aq) (L:List Aq):Js (setS n x L)=Fd n (fun _=>x.fil) (Js L):=by
 simp only [Js,setS,Fd,List.map_map];refine List.map_congr_left fun s _=> ?_;simp only [Function.comp];split<;>rfl
theorem fils_at (n:List UInt8): ∀ L:List Aq,Bf (Js L) n=(D9 L n).map (·.fil)
 | []=>rfl
 |y::r=>by
  have h:=fils_at n r
  simp only [Js,Bf,D9] at h ⊢
  rw [List.map_cons,List.find?_cons,List.find?_cons]
  cases y.fil.name==n
  ·exact h
  ·rfl
theorem Ji {L:List Aq}  {s:Aq} (h:D9 L n=some s):s∈L∧s.fil.name=n:=
 ⟨List.mem_of_find?_eq_some h,by have:=List.find?_some h;simpa using this⟩
theorem insert_lt {x y:Lit×DataW Unit} {r:List (Lit×DataW Unit)} (h:x.1.before y.1=true):DataW.insert x (y::r)=x::y::r:=by rw [DataW.insert,κ h]
theorem insert_ge {x y:Lit×DataW Unit} {r:List (Lit×DataW Unit)} (h:x.1.before y.1=false):DataW.insert x (y::r)=y::DataW.insert x r:=by rw [DataW.insert,γ (by rw [h];exact Bool.false_ne_true)]
def ent (s:Aq):Lit×DataW Unit:=(.string s.fil.name,.lit (.int .u64 (s.blk:Int)))
theorem Kj (s:Aq) (L:List Aq):It (s::L)=ent s::It L:=rfl
theorem ents_put' (s:Aq): ∀ L:List Aq,DataW.insert (ent s) (It L)=It (N2 s L)
 | []=>rfl
 |y::r=>by
  have h:=ents_put' s r
  rcases hb:bytesBefore s.fil.name y.fil.name with _|_
  ·rw [Kj,insert_ge (show (ent s).1.before (ent y).1=false from hb),h,←Kj]
   rw [show N2 s (y::r)=y::N2 s r by rw [N2,γ (by rw [hb];exact Bool.false_ne_true)]]
  ·rw [Kj,insert_lt (show (ent s).1.before (ent y).1=true from hb),←Kj,←Kj]
   rw [show N2 s (y::r)=s::y::r by rw [N2,κ hb]]
theorem ents_put (s:Aq) (L:List Aq):DataW.insert (.string s.fil.name,.lit (.int .u64 (s.blk:Int))) (It L)=It (N2 s L):=ents_put' s L
theorem ents_take (n:List UInt8): ∀ L:List Aq,(It L).filter (fun p=> !p.1.sameKey (.string n))=It (takeS n L)
 | []=>rfl
 |y::r=>by
  have h:=ents_take n r
  rcases hb:(!(y.fil.name==n)) with _|_
  ·rw [Kj,List.filter_cons_of_neg (p:=fun p:Lit×DataW Unit=> !p.1.sameKey (.string n)) (a:=ent y) (show ¬ (!(ent y).1.sameKey (.string n))=true from fun e=>by rw [show (!(ent y).1.sameKey (.string n))=(!(y.fil.name==n)) from rfl,hb] at e;cases e),h]
   unfold takeS
   rw [List.filter_cons_of_neg (by rw [hb];exact Bool.false_ne_true)]
  ·rw [Kj,List.filter_cons_of_pos (p:=fun p:Lit×DataW Unit=> !p.1.sameKey (.string n)) (a:=ent y) (show (!(ent y).1.sameKey (.string n))=true from hb),h]
   unfold takeS
   rw [List.filter_cons_of_pos (p:=fun s:Aq=> !(s.fil.name==n)) (a:=y) hb]
   rfl
theorem ents_set {x:Aq}: ∀ {L:List Aq},(∀ s∈L,s.fil.name=n→x.fil.name=s.fil.name∧x.blk=s.blk)→It (setS n x L)=It L:=by
 intro L h;simp only [It,setS,List.map_map];refine List.map_congr_left fun s hs=> ?_;simp only [Function.comp];split
 ·rename_i hc;obtain⟨h1,h2⟩:=h s hs (by simpa using hc);rw [h1,h2]
 ·rfl
theorem ents_at (n:List UInt8) (z:DataW Unit): ∀ L:List Aq,(DataW.map (It L)).atKey (.string n) z=match D9 L n with|none=>z|some s=> .lit (.int .u64 (s.blk:Int))
 | []=>rfl
 |y::r=>by
  have h:=ents_at n z r
  simp only [It,D9,DataW.atKey] at h ⊢
  rw [List.map_cons,List.find?_cons,List.find?_cons]
  simp only [Lit.sameKey] at h ⊢
  cases y.fil.name==n
  ·exact h
  ·rfl
theorem Ni (L:List Aq):(It L).length=L.length:=by simp [It]
theorem mem_putS {s x:Aq}: ∀ {L:List Aq},x∈N2 s L↔x=s∨x∈L
 | []=>by simp [N2]
 |y::r=>by
  unfold N2
  split
  ·simp
  ·simp only [Δ,mem_putS (L:=r)]
   constructor
   ·rintro(h|h|h)
    ·exact .inr (.inl h)
    ·exact .inl h
    ·exact .inr (.inr h)
   ·rintro(h|h|h)
    ·exact .inr (.inl h)
    ·exact .inl h
    ·exact .inr (.inr h)
theorem putS_perm (s:Aq): ∀ L:List Aq,(N2 s L).Perm (s::L)
 | []=>List.Perm.refl _
 |y::r=>by
  unfold N2
  split
  ·exact List.Perm.refl _
  ·exact((putS_perm s r).cons y).trans (List.Perm.swap s y r)
theorem takeS_length (n:List UInt8) (L:List Aq):(takeS n L).length≤L.length:=List.length_filter_le _ _
def ptrElem:Value→Option (DataW Unit×List MemPlace)
 |.pointer none=>some (.nil,[])
 |.pointer (some ⟨g,0,none⟩)=>some (.lit (.int .u64 (g:Int)),[])
 |_=>none
theorem ptrElem_nil {ps:List MemPlace} (h:ptrElem v=some (.nil,ps)):v= .pointer none:=by
 unfold ptrElem at h;split at h
 ·rfl
 ·simp at h
 ·cases h
theorem ptrElem_at {ps:List MemPlace} (h:ptrElem v=some (.lit (.int .u64 (g:Int)),ps)):v= .pointer (some ⟨g,0,none⟩):=by
 unfold ptrElem at h;split at h
 ·simp at h
 ·rename_i g';simp at h;have e:g'=g:=by omega
  rw [e]
 ·cases h
def Far (s t:Aq):Prop:=s.blk≠t.blk∧Be s.sl≠some t.blk∧Be t.sl≠some s.blk∧ ∀ g,Be s.sl=some g→Be t.sl≠some g
theorem Far.symm {s t:Aq} (h:Far s t):Far t s:=⟨h.1.symm,h.2.2.1,h.2.1,fun g hg ht=>h.2.2.2 g ht hg⟩
def Lm (s:Aq):Array Value:= #[s.sl,Vi Vk s.fil.safe]
def Dz (w:World) (s:Aq):Prop:=w.heap[s.blk]? =some (.cells (Lm s) 109 (0,0))∧Ju w s.sl s.fil.data
theorem Dz.lt {s:Aq} (h:Dz w s):s.blk<w.heap.size:=(δ.1 h.1).1
theorem Dz.kept {s:Aq} (h:Dz w s) (h1:w'.heap[s.blk]? =w.heap[s.blk]?) (h2: ∀ g,Be s.sl=some g→w'.heap[g]? =w.heap[g]?):Dz w' s:=⟨by rw [h1];exact h.1,h.2.kept h2⟩
theorem Dz.c0 {s:Aq} (h:Dz w s):w.cell? ⟨s.blk,0,none⟩=some s.sl:=by simp [World.cell?,h.1,Lm]
theorem Dz.c1 {s:Aq} (h:Dz w s):w.cell? ⟨s.blk,1,none⟩=some (Vi Vk s.fil.safe):=by simp [World.cell?,h.1,Lm]
theorem Dz.free {s:Aq} (h:Dz w s) (j:Nat):w.frozen? ⟨s.blk,j,none⟩=false:=by simp [World.frozen?,h.1]
structure F3 (w:World) (f m:Nat) (L:List Aq):Prop where
 map:w.ownsMap prog 9 ptrElem m L.length (.map (It L))
 slot: ∀ s∈L,Dz w s
 rise:Fs (Js L)
 apart:f≠m∧(∀ s∈L,s.blk≠f∧s.blk≠m∧Be s.sl≠some f∧Be s.sl≠some m∧Be s.sl≠some s.blk)∧L.Pairwise Far
def foot (f m:Nat) (L:List Aq) (k:Nat):Prop:=k=f∨k=m∨ ∃ s∈L,k=s.blk∨Be s.sl=some k
theorem F3.lt {L:List Aq} (h:F3 w f m L) (hf:f<w.heap.size): ∀ k,foot f m L k→k<w.heap.size:=by
 rintro k (rfl|rfl|⟨s,hs,rfl|hk⟩)
 ·exact hf
 ·exact h.map.lt
 ·exact(h.slot s hs).lt
 ·exact(h.slot s hs).2.lt hk
theorem F3.kept {L:List Aq} (h:F3 w f m L) (hk: ∀ k,k≠f→foot f m L k→w'.heap[k]? =w.heap[k]?):F3 w' f m L:=by
 refine⟨?_,fun s hs=> ?_,h.rise,h.apart⟩
 ·obtain⟨es,clock,hb,r⟩:=h.map;exact⟨es,clock,by rw [hk m h.apart.1.symm (.inr (.inl rfl))];exact hb,r⟩
 ·obtain⟨h1,h2,h3,h4,h5⟩:=h.apart.2.1 s hs;exact(h.slot s hs).kept (hk _ h1 (.inr (.inr ⟨s,hs,.inl rfl⟩))) fun g hg=>hk g (fun e=>h3 (by rw [←e];exact hg)) (.inr (.inr ⟨s,hs,.inr hg⟩))
theorem F3.below {L:List Aq} (h:F3 w f m L) (hf:f<w.heap.size) (hb:Below w.heap.size w w'):F3 w' f m L:=h.kept fun k _ hk=>hb.block k (h.lt hf k hk)
theorem F3.turned {L:List Aq}  (h:F3 w f m L) (hf:f<w.heap.size) (ht:Ab S w w') (hS: ∀ k,k≠f→foot f m L k→ ¬ S k):F3 w' f m L:=h.kept fun k hk hfoot=>ht.block k (h.lt hf k hfoot) (hS k hk hfoot)
theorem F3.one {w:World} {f m:Nat} {L:List Aq} (h:F3 w f m L) {n:List UInt8} {s t:Aq} (hs:D9 L n=some s) (ht:t∈L) (hn:t.fil.name=n):t=s:=by
 have hr:=h.rise;clear h
 induction L with
 |nil=>cases ht
 |cons y r ih=>
  simp only [Js,List.map_cons] at hr;obtain⟨h1,h2⟩:=List.pairwise_cons.1 hr;unfold D9 at hs;rw [List.find?_cons] at hs;by_cases hy:y.fil.name=n
  ·rw [show (y.fil.name==n)=true by simpa using hy] at hs;simp only [Option.some.injEq] at hs;rcases Δ.1 ht with rfl|ht
   ·exact hs
   ·exact absurd (hy.trans hn.symm) (Ip (h1 t.fil (List.mem_map.2 ⟨t,ht,rfl⟩)))
  ·rw [show (y.fil.name==n)=false by simpa using hy] at hs;rcases Δ.1 ht with rfl|ht
   ·exact absurd hn hy
   ·exact ih hs ht h2
theorem setS_mem {x t:Aq} {L:List Aq} (h:t∈setS n x L):(t=x∧ ∃ s∈L,s.fil.name=n)∨(t∈L∧t.fil.name≠n):=by
 obtain⟨s,hs,rfl⟩:=List.mem_map.1 h;by_cases hc:s.fil.name=n
 ·rw [show (s.fil.name==n)=true by simpa using hc];exact .inl ⟨rfl,s,hs,hc⟩
 ·rw [show (s.fil.name==n)=false by simpa using hc];exact .inr ⟨hs,hc⟩
theorem F3.set {L:List Aq}  {s x:Aq} (h:F3 w f m L) (hf:f<w.heap.size) (hs:D9 L n=some s) (hn:x.fil.name=n) (hb:x.blk=s.blk) (hx:Dz w' x)
  (hd: ∀ g,Be x.sl=some g→Be s.sl=some g∨w.heap.size≤g) (hk: ∀ k,k≠f→k≠s.blk→Be s.sl≠some k→k<w.heap.size→w'.heap[k]? =w.heap[k]?):F3 w' f m (setS n x L):=by
 obtain⟨hsm,hsn⟩:=Ji hs;have hen:It (setS n x L)=It L:=ents_set fun t ht hnt=>by
  obtain rfl:=h.one hs ht hnt;exact⟨hn.trans hnt.symm,hb⟩
 obtain⟨a1,a2,a3⟩:=h.apart;obtain⟨b1,b2,b3,b4,b5⟩:=a2 s hsm;have hfar: ∀ t∈L,t.fil.name≠n→Far s t:=fun t ht hnt=>by
  obtain⟨i,hi⟩:=List.getElem?_of_mem ht;obtain⟨j,hj⟩:=List.getElem?_of_mem hsm;have hij:i≠j:=fun e=>hnt (by rw [e,hj] at hi;cases hi;exact hsn);have hi':=List.getElem?_eq_some_iff.1 hi;have hj':=List.getElem?_eq_some_iff.1 hj;rcases Nat.lt_or_gt_of_ne hij with hlt|hlt
  ·have hF:=List.pairwise_iff_getElem.1 a3 i j hi'.1 hj'.1 hlt;rw [hi'.2,hj'.2] at hF;exact hF.symm
  ·have hF:=List.pairwise_iff_getElem.1 a3 j i hj'.1 hi'.1 hlt;rw [hi'.2,hj'.2] at hF;exact hF
 have hxfar: ∀ t∈L,t.fil.name≠n→Far x t:=fun t ht hnt=>by
  obtain⟨c1,c2,c3,c4⟩:=hfar t ht hnt;have ht1:=(h.slot t ht).lt;refine⟨by rw [hb];exact c1,fun e=> ?_,by rw [hb];exact c3,fun g hg e=> ?_⟩
  ·rcases hd _ e with h1|h1
   ·exact c2 h1
   ·omega
  ·rcases hd _ hg with h1|h1
   ·exact c4 g h1 e
   ·have:=(h.slot t ht).2.lt e;omega
 have hlen:(setS n x L).length=L.length:=by simp [setS]
 refine⟨?_,fun t ht=> ?_,?_,a1,fun t ht=> ?_,?_⟩
 ·rw [hen,hlen];obtain⟨es,clock,hbm,r⟩:=h.map;exact⟨es,clock,by rw [hk m a1.symm b2.symm b4 h.map.lt];exact hbm,r⟩
 ·rcases setS_mem ht with⟨rfl,_⟩|⟨ht,hnt⟩
  ·exact hx
  ·obtain⟨c1,c2,c3,c4⟩:=hfar t ht hnt;obtain⟨d1,d2,d3,d4,d5⟩:=a2 t ht;exact(h.slot t ht).kept (hk _ d1 c1.symm (fun e=>c2 e) (h.slot t ht).lt) fun g hg=>hk g (fun e=>d3 (by rw [←e];exact hg)) (fun e=>c3 (by rw [←e];exact hg)) (fun e=>c4 g e hg) ((h.slot t ht).2.lt hg)
 ·rw [fils_set];refine rise_set' (n:=n) h.rise fun y hy hyn=> ?_;show x.fil.name=y.name;rw [hn];exact hyn
 ·rcases setS_mem ht with⟨rfl,_⟩|⟨ht,hnt⟩
  ·rw [hb];refine⟨b1,b2,fun e=> ?_,fun e=> ?_,fun e=> ?_⟩
   ·rcases hd _ e with h1|h1
    ·exact b3 h1
    ·omega
   ·rcases hd _ e with h1|h1
    ·exact b4 h1
    ·have:=h.map.lt;omega
   ·rcases hd _ e with h1|h1
    ·exact b5 h1
    ·have:=(h.slot s hsm).lt;omega
  ·exact a2 t ht
 ·unfold setS;rw [List.pairwise_map];have hnames:L.Pairwise fun a b=>a.fil.name≠b.fil.name:=by
   have:=h.rise;unfold Fs Js at this;rw [List.pairwise_map] at this;exact this.imp fun hab=>Ip hab
  refine(a3.and hnames).imp_of_mem fun {a b} ha hb' hab=> ?_;obtain⟨hF,hne⟩:=hab;by_cases h1:a.fil.name=n
  ·have h2:b.fil.name≠n:=fun e=>hne (h1.trans e.symm);rw [show (a.fil.name==n)=true by simpa using h1,show (b.fil.name==n)=false by simpa using h2];exact hxfar b hb' h2
  ·rw [show (a.fil.name==n)=false by simpa using h1];by_cases h2:b.fil.name=n
   ·rw [show (b.fil.name==n)=true by simpa using h2];exact(hxfar a ha h1).symm
   ·rw [show (b.fil.name==n)=false by simpa using h2];exact hF
theorem keyName (hn:n.length≤1000):keyOf prog 9 (.string ⟨n.toArray⟩)=some (.string n):=by
 have:=WideMaps.keyOf_string_mk (P:=prog) underlying9 (s:=⟨n.toArray⟩) (by simp [ByteArray.size,maxLen];omega);simpa using this
theorem owns_tight {n:Nat} {es:List (Lit×DataW Unit)} (h:w.ownsMap prog 9 ptrElem m n (.map es)):w.ownsMap prog 9 ptrElem m es.length (.map es):=by
 obtain⟨e,clock,hb,F,_,hD⟩:=h;refine⟨e,clock,hb,F,?_,hD⟩;have:=congrArg (fun d:DataW Unit=>match d with|.map l=>l.length|_=>0) hD;simp only [length_sorted] at this;rw [this];simp
theorem F3.put {L:List Aq} {s:Aq} (h:F3 w f m L) (hn:s.fil.name.length≤1000) (hL:L.length≤1000000) (hx:Dz w s)
  (h1:s.blk≠f∧s.blk≠m∧Be s.sl≠some f∧Be s.sl≠some m∧Be s.sl≠some s.blk) (h2: ∀ t∈takeS s.fil.name L,Far s t):
  ∃ w',(Instr.mapUpdate 93 (.map (some m)) (.string ⟨s.fil.name.toArray⟩) (.pointer (some ⟨s.blk,0,none⟩))).run prog w= .ok () w'∧F3 w' f m (N2 s (takeS s.fil.name L))∧w.grownBy w' (some m):=by
 obtain⟨w',hrun,hown,hturn⟩:=h.map.store (string_keyed underlying9) underlying93 (by unfold maxLen;omega) (keyName hn) (show ptrElem (.pointer (some ⟨s.blk,0,none⟩))=some (.lit (.int .u64 (s.blk:Int)),[]) from rfl);have hg:=hturn.grown;have hother: ∀ k,k<w.heap.size→k≠m→w'.heap[k]? =w.heap[k]? :=fun k hk hne=>hg.block k hk (by simpa using hne);obtain⟨a1,a2,a3⟩:=h.apart;refine⟨w',hrun,⟨?_,fun t ht=> ?_,?_,a1,fun t ht=> ?_,?_⟩,hg⟩
 ·rw [DataW.put_eq] at hown;have e:ChangeMaps.putKey (.string s.fil.name) (.lit (.int .u64 (s.blk:Int))) (It L)=It (N2 s (takeS s.fil.name L)):=by
   unfold ChangeMaps.putKey;rw [show (It L).filter (ChangeMaps.notKey (.string s.fil.name))=It (takeS s.fil.name L) from ents_take _ L];exact ents_put s _
  rw [e] at hown;have:=owns_tight hown;rwa [Ni] at this
 ·rcases mem_putS.1 ht with rfl|ht
  ·exact hx.kept (hother _ hx.lt h1.2.1) fun g hg'=>hother g (hx.2.lt hg') fun e=>h1.2.2.2.1 (by rw [←e];exact hg')
  ·have ht':=(List.mem_filter.1 ht).1;obtain⟨b1,b2,b3,b4,b5⟩:=a2 t ht';exact(h.slot t ht').kept (hother _ (h.slot t ht').lt b2) fun g hg'=>hother g ((h.slot t ht').2.lt hg') fun e=>b4 (by rw [←e];exact hg')
 ·rw [fils_put,Mi];refine rise_put (Kt h.rise) fun x hx'=> ?_;have:=(List.mem_filter.1 hx').2;simpa using this
 ·rcases mem_putS.1 ht with rfl|ht
  ·exact h1
  ·exact a2 t (List.mem_filter.1 ht).1
 ·refine((putS_perm s _).symm.pairwise_iff (fun {_ _} hab=>Far.symm hab)).1 ?_;exact List.pairwise_cons.2 ⟨h2,a3.sublist List.filter_sublist⟩
theorem F3.take {L:List Aq}  (h:F3 w f m L) (hn:n.length≤1000) (ty:TypeId):
  ∃ w',(Builtin.delete_ #[93,9] ty #[.map (some m),.string ⟨n.toArray⟩]).run prog w= .ok (.tuple #[]) w'∧F3 w' f m (takeS n L)∧w.grownBy w' (some m):=by
 obtain⟨w',hrun,hown,hturn⟩:=h.map.drop (string_keyed underlying9) underlying93 (keyName hn) ty;have hg:=hturn.grown;have hother: ∀ k,k<w.heap.size→k≠m→w'.heap[k]? =w.heap[k]? :=fun k hk hne=>hg.block k hk (by simpa using hne);obtain⟨a1,a2,a3⟩:=h.apart;refine⟨w',hrun,⟨?_,fun t ht=> ?_,?_,a1,fun t ht=>a2 t (List.mem_filter.1 ht).1,a3.sublist List.filter_sublist⟩,hg⟩
 ·have e:(DataW.map (It L)).del (.string n)= .map (It (takeS n L)):=by
   rw [DataW.del_eq];unfold ChangeMaps.delKey;rw [show (It L).filter (ChangeMaps.notKey (.string n))=It (takeS n L) from ents_take _ L]
  rw [e] at hown;have:=owns_tight hown;rwa [Ni] at this
 ·have ht':=(List.mem_filter.1 ht).1;obtain⟨b1,b2,b3,b4,b5⟩:=a2 t ht';exact(h.slot t ht').kept (hother _ (h.slot t ht').lt b2) fun g hg'=>hother g ((h.slot t ht').2.lt hg') fun e=>b4 (by rw [←e];exact hg')
 ·rw [Mi];exact Kt h.rise
theorem F3.look {L:List Aq}  (h:F3 w f m L) (hn:n.length≤1000):
  (Instr.lookup 93 (.map (some m)) (.string ⟨n.toArray⟩) false).run prog w= .ok (match D9 L n with|none=> .pointer none|some s=> .pointer (some ⟨s.blk,0,none⟩)) w:=by
 obtain⟨v,ps,hrun,hv⟩:=h.map.lookup (string_keyed underlying9) underlying93 (z:= .pointer none) (by kernel_rfl) (show ptrElem (.pointer none)=some (.nil,[]) from rfl) (keyName hn);rw [hrun];rw [ents_at] at hv;rcases hs:D9 L n with _|s
 ·rw [hs] at hv;rw [ptrElem_nil hv]
 ·rw [hs] at hv;rw [ptrElem_at hv]
structure Hd where
 room:Int
 used:Int
 steps:Int
 reads:Int
 fuse:Int
 down:Bool
def hdCs (m:Nat) (h:Hd):Array Value:= #[.map (some m),Vi Vk h.room,Vi Vk h.used,Vi Vk h.steps,Vi Vk h.reads,Vi Vk h.fuse,.bool h.down]
def E7 (w:World) (f m:Nat) (h:Hd):Prop:=w.heap[f]? =some (.cells (hdCs m h) 95 (0,0))
theorem E7.lt {h:Hd} (H:E7 w f m h):f<w.heap.size:=(δ.1 H).1
theorem E7.cell {h:Hd} (H:E7 w f m h) (j:Nat):w.cell? ⟨f,j,none⟩=(hdCs m h)[j]? :=by
 unfold E7 at H;simp [World.cell?,H]
theorem E7.free {h:Hd} (H:E7 w f m h) (j:Nat):w.frozen? ⟨f,j,none⟩=false:=by unfold E7 at H;simp [World.frozen?,H]
theorem E7.c0 {h:Hd} (H:E7 w f m h):w.cell? ⟨f,0,none⟩=some (.map (some m)):=H.cell 0
theorem E7.c1 {h:Hd} (H:E7 w f m h):w.cell? ⟨f,1,none⟩=some (Vi Vk h.room):=H.cell 1
theorem E7.c2 {h:Hd} (H:E7 w f m h):w.cell? ⟨f,2,none⟩=some (Vi Vk h.used):=H.cell 2
theorem E7.c3 {h:Hd} (H:E7 w f m h):w.cell? ⟨f,3,none⟩=some (Vi Vk h.steps):=H.cell 3
theorem E7.c4 {h:Hd} (H:E7 w f m h):w.cell? ⟨f,4,none⟩=some (Vi Vk h.reads):=H.cell 4
theorem E7.c5 {h:Hd} (H:E7 w f m h):w.cell? ⟨f,5,none⟩=some (Vi Vk h.fuse):=H.cell 5
theorem E7.c6 {h:Hd} (H:E7 w f m h):w.cell? ⟨f,6,none⟩=some (.bool h.down):=H.cell 6
theorem E7.set {h h':Hd} (H:E7 w f m h) (j:Nat) (v:Value) (e:(hdCs m h).setIfInBounds j v=hdCs m h'):E7 (w.setCell ⟨f,j,none⟩ v) f m h':=by
 unfold E7 at H ⊢;rw [←e];simp only [World.setCell];rw [Array.getElem?_modify];simp [H]
theorem E7.kept {h:Hd} (H:E7 w f m h) (hk:w'.heap[f]? =w.heap[f]?):E7 w' f m h:=by unfold E7 at H ⊢;rw [hk];exact H
theorem E7.below {h:Hd} (H:E7 w f m h) (hb:Below w.heap.size w w'):E7 w' f m h:=H.kept (hb.block f H.lt)
def Ex (d:Af):Hd:=⟨d.room,(usedF d.files:Int),d.steps,d.reads,d.fuse,d.down⟩
structure Bv (w:World) (f m:Nat) (d:Af) (L:List Aq):Prop where
 hd:E7 w f m (Ex d)
 body:F3 w f m L
 fil:Js L=d.files
 ok:A0 d
theorem Bv.below {d:Af} {L:List Aq} (h:Bv w f m d L) (hb:Below w.heap.size w w'):Bv w' f m d L:=⟨h.hd.below hb,h.body.below h.hd.lt hb,h.fil,h.ok⟩
theorem Bv.lt {d:Af} {L:List Aq} (h:Bv w f m d L): ∀ k,foot f m L k→k<w.heap.size:=h.body.lt h.hd.lt
def M8 (h:Hd):Hd:=if h.fuse=1 then {h with fuse:=0,down:=true} else {h with fuse:=if 1<h.fuse then h.fuse - 1 else h.fuse,steps:=h.steps+1}
theorem stepHd_of (d:Af):M8 (Ex d)=Ex (Ar d):=by
 unfold M8 Ar Ex;by_cases h:d.fuse=1
 ·rw [κ h,κ h]
 ·rw [γ h,γ h]
theorem E7.otherCell {h:Hd} (H:E7 w f m h)  (hn:f≠k) (j:Nat) (v:Value):E7 (w.setCell ⟨k,j,none⟩ v) f m h:=by
 unfold E7 at H ⊢;simp only [World.setCell];rw [Array.getElem?_modify];simp [H,Ne.symm hn]
theorem Om (w:World) (f m:Nat) (h:Hd) (H:E7 w f m h) (h0:0≤h.fuse) (h1:h.fuse≤9223372036854775807) (s0:0≤h.steps) (s1:h.steps<4611686018427387904):
  Calls prog 84 #[.pointer (some ⟨f,0,none⟩)] w fun e w'=>e= .returned (.bool (!(decide (h.fuse=1))))∧E7 w' f m (M8 h)∧Ab (fun k=>k=f) w w':=by
 have c3:=H.c3;have c5:=H.c5;have c6:=H.c6;have f3:=H.free 3;have f5:=H.free 5;have f6:=H.free 6;have HH:=Qh H;have hw3:IntKind.i64.wrap (h.steps+1)=h.steps+1:=by rw [ν];omega
 by_cases hf0:h.fuse=0
 ·have t1:decide (0<h.fuse)=false:=by simp;omega
  have HE:=Qs (M8 h={h with steps:=h.steps+1}) (by unfold M8;rw [γ (by omega),γ (by omega)]);have HD:=Qs (decide (h.fuse=1)=false) (by simp;omega);clear hf0 h0 h1 H;go_enter func84,ntmps84;go_wp2;go_ret;refine⟨by rw [HD.out];rfl,?_,Ab.setCell _ _ _ rfl⟩;rw [HE.out];exact HH.out.set 3 _ rfl
 by_cases hf1:h.fuse=1
 ·have t1:decide (0<h.fuse)=true:=by simp;omega
  have hw5':IntKind.i64.wrap (h.fuse - 1)=0:=by rw [ν];omega
  have HE:=Qs (M8 h={h with fuse:=0,down:=true}) (by unfold M8;rw [κ hf1]);have HD:=Qs (decide (h.fuse=1)=true) (by simp [hf1]);clear hf0 h0 h1 H hf1;go_enter func84,ntmps84;go_wp2;go_ret;refine⟨by rw [HD.out];rfl,?_,(Ab.setCell (S:=fun k=>k=f) _ ⟨f,5,none⟩ _ rfl).trans (Ab.setCell (S:=fun k=>k=f) _ ⟨f,6,none⟩ _ rfl) fun i h=> .inl h⟩;rw [HE.out];exact(HH.out.set (h':={h with fuse:=0}) 5 _ rfl).set 6 _ rfl
 ·have t1:decide (0<h.fuse)=true:=by simp;omega
  have hw5':IntKind.i64.wrap (h.fuse - 1)=h.fuse - 1:=by rw [ν];omega
  have t2:(h.fuse - 1==0)=false:=by rw [beq_eq_false_iff_ne];omega
  have HE:=Qs (M8 h={h with fuse:=h.fuse - 1,steps:=h.steps+1}) (by unfold M8;rw [γ hf1,κ (by omega)]);have HD:=Qs (decide (h.fuse=1)=false) (by simp [hf1]);clear hf0 h0 h1 H hf1;go_enter func84,ntmps84;go_wp2;go_ret;refine⟨by rw [HD.out];rfl,?_,(Ab.setCell (S:=fun k=>k=f) _ ⟨f,5,none⟩ _ rfl).trans (Ab.setCell (S:=fun k=>k=f) _ ⟨f,3,none⟩ _ rfl) fun i h=> .inl h⟩;rw [HE.out];exact(HH.out.set (h':={h with fuse:=h.fuse - 1}) 5 _ rfl).set 3 _ rfl
theorem Ks (h:Ao n=true):n.length≤1000:=by
 simp only [Ao,Bool.and_eq_true,decide_eq_true_eq] at h;omega
def Oi (L:List Aq) (d:Af) (n:List UInt8):Value:=if Av d n=0 then (match D9 L n with | none=> .pointer none | some s=> .pointer (some ⟨s.blk,0,none⟩)) else .pointer none
theorem La (w:World) (f m:Nat) (d:Af) (L:List Aq) (h:Bv w f m d L) (n:List UInt8):
  Calls prog 59 #[.pointer (some ⟨f,0,none⟩),.string ⟨n.toArray⟩] w fun e w'=>e= .returned (.tuple #[Oi L d n,Vi Vk (Av d n)])∧w=w':=by
 have c0:=h.hd.c0;have c6:=h.hd.c6;have hat:=fils_at n L;rw [h.fil] at hat;rcases openE_cases d n with⟨he,hd⟩|⟨he,hd,hr⟩|⟨he,hd,hr,ha⟩|⟨he,hd,hr,x,ha⟩
 ·have HE:=Qh he;have HV:=Qs (Oi L d n= .pointer none) (by unfold Oi;rw [γ (by omega)]);have c6':w.cell? ⟨f,6,none⟩=some (.bool true):=by rw [c6];show some (Value.bool d.down)=_;rw [hd]
  clear he hd hat c6 h;go_enter func59,ntmps59;go_wp2;go_ret2;exact⟨by rw [HV.out,HE.out];rfl,rfl⟩
 ·have HE:=Qh he;have HV:=Qs (Oi L d n= .pointer none) (by unfold Oi;rw [γ (by omega)]);have c6':w.cell? ⟨f,6,none⟩=some (.bool false):=by rw [c6];show some (Value.bool d.down)=_;rw [hd]
  have HR:=Qh (Right_any n w);rw [hr] at HR;clear he hd hat c6 h hr;go_enter func59,ntmps59;go_wp2_with (go_at_call 95;refine HR.out.mono ?_;rintro e w1 ⟨rfl,rfl⟩);go_ret2;exact⟨by rw [HV.out,HE.out];rfl,rfl⟩
 ·have HE:=Qh he;have hs:D9 L n=none:=by rw [ha] at hat;exact(Option.map_eq_none_iff.1 hat.symm)
  have HV:=Qs (Oi L d n= .pointer none) (by unfold Oi;rw [γ (by omega)]);have c6':w.cell? ⟨f,6,none⟩=some (.bool false):=by rw [c6];show some (Value.bool d.down)=_;rw [hd]
  have HR:=Qh (Right_any n w);have hlook:=h.body.look (n:=n) (Ks hr);rw [hs] at hlook;simp only at hlook;rw [hr] at HR;clear he hd hat c6 h hr ha hs;go_enter func59,ntmps59;go_wp2_with (go_at_call 95;refine HR.out.mono ?_;rintro e w1 ⟨rfl,rfl⟩);go_ret2;exact⟨by rw [HV.out,HE.out];rfl,rfl⟩
 ·have HE:=Qh he;obtain⟨s,hs⟩: ∃ s,D9 L n=some s:=by
   rcases hs:D9 L n with _|s
   ·rw [hs,ha] at hat;cases hat
   ·exact⟨s,rfl⟩
  have HV:=Qs (Oi L d n= .pointer (some ⟨s.blk,0,none⟩)) (by unfold Oi;rw [κ he,hs]);have c6':w.cell? ⟨f,6,none⟩=some (.bool false):=by rw [c6];show some (Value.bool d.down)=_;rw [hd]
  have HR:=Qh (Right_any n w);have hlook:=h.body.look (n:=n) (Ks hr);rw [hs] at hlook;simp only at hlook;rw [hr] at HR;clear he hd hat c6 h hr ha hs;go_enter func59,ntmps59;go_wp2_with (go_at_call 95;refine HR.out.mono ?_;rintro e w1 ⟨rfl,rfl⟩);go_ret2;exact⟨by rw [HV.out,HE.out];rfl,rfl⟩
def A1 (w:World) (f m:Nat) (L:List Aq) (d':Af) (w':World):Prop:= ∃ L',Bv w' f m d' L'∧Ab (foot f m L) w w'∧ ∀ k,foot f m L' k→foot f m L k∨w.heap.size≤k
theorem A1.same {L:List Aq} {d:Af} (h:Bv w f m d L):A1 w f m L d w:=⟨L,h,Ab.refl _ _,fun _ h=> .inl h⟩
theorem Bv.stepped {d:Af} {L:List Aq} (h:Bv w f m d L) (h1:E7 w1 f m (M8 (Ex d))) (h2:Ab (fun k=>k=f) w w1):Bv w1 f m (Ar d) L:=by
 rw [stepHd_of] at h1;exact⟨h1,h.body.turned h.hd.lt h2 fun k hk _ e=>hk e,by rw [Bo];exact h.fil,h.ok.step⟩
theorem foot_f {L:List Aq}:foot f m L f:= .inl rfl
theorem A1.stepped {d:Af} {L:List Aq} (h:Bv w f m d L) (h1:E7 w1 f m (M8 (Ex d))) (h2:Ab (fun k=>k=f) w w1):A1 w f m L (Ar d) w1:=
 ⟨L,h.stepped h1 h2,h2.mono fun _ hk=> .inl hk,fun _ h=> .inl h⟩
theorem A1.then {d':Af} {L L1:List Aq} (h:A1 w1 f m L1 d' w2) (ht:Ab (foot f m L) w w1) (hL: ∀ k,foot f m L1 k→foot f m L k∨w.heap.size≤k):A1 w f m L d' w2:=by
 obtain⟨L',h1,h2,h3⟩:=h;refine⟨L',h1,ht.trans h2 hL,fun k hk=> ?_⟩;rcases h3 k hk with h4|h4
 ·exact hL k h4
 ·exact .inr (η ht.size h4)
theorem foot_set {L:List Aq}  {s x:Aq}  (hs:D9 L n=some s) (hb:x.blk=s.blk) (hd: ∀ g,Be x.sl=some g→Be s.sl=some g∨N≤g): ∀ k,foot f m (setS n x L) k→foot f m L k∨N≤k:=by
 have hsm:=(Ji hs).1;rintro k (rfl|rfl|⟨t,ht,hk⟩)
 ·exact .inl (.inl rfl)
 ·exact .inl (.inr (.inl rfl))
 ·rcases setS_mem ht with⟨rfl,_⟩|⟨ht,_⟩
  ·rcases hk with rfl|hk
   ·exact .inl (.inr (.inr ⟨s,hsm,.inl hb⟩))
   ·rcases hd k hk with h1|h1
    ·exact .inl (.inr (.inr ⟨s,hsm,.inr h1⟩))
    ·exact .inr h1
  ·exact .inl (.inr (.inr ⟨t,ht,hk⟩))
theorem Ps {d:Af} {L:List Aq} (h:Bv w f m d L)  (he:Av d n=0): ∃ s,D9 L n=some s∧Bf d.files n=some s.fil∧Oi L d n= .pointer (some ⟨s.blk,0,none⟩)∧Ao n=true∧s∈L∧s.fil.name=n:=by
 obtain⟨_,hr,x,ha⟩:=Kq he;have hat:=fils_at n L;rw [h.fil,ha] at hat;rcases hs:D9 L n with _|s
 ·rw [hs] at hat;cases hat
 ·rw [hs] at hat;simp only [Option.map_some,Option.some.injEq] at hat;subst hat;exact⟨s,rfl,ha,by unfold Oi;rw [κ he,hs],hr,Ji hs⟩
theorem A1.setFile {d1 d2:Af} {L:List Aq}  {s x:Aq} (H1:Bv w1 f m d1 L) (ht:Ab (foot f m L) w w1) (hs:D9 L n=some s) (hn:x.fil.name=n) (hb:x.blk=s.blk)
  (ht2:Ab (fun k=>k=f∨k=s.blk∨Be s.sl=some k) w1 w2) (hx:Dz w2 x) (hd: ∀ g,Be x.sl=some g→Be s.sl=some g∨w1.heap.size≤g)
  (hh:E7 w2 f m (Ex d2)) (hf:d2.files=Fd n (fun _=>x.fil) d1.files) (hok:A0 d2):A1 w f m L d2 w2:=by
 have hsm:=(Ji hs).1;have hfoot: ∀ k,(k=f∨k=s.blk∨Be s.sl=some k)→foot f m L k∨w.heap.size≤k:=by
  rintro k (rfl|rfl|hk)
  ·exact .inl (.inl rfl)
  ·exact .inl (.inr (.inr ⟨s,hsm,.inl rfl⟩))
  ·exact .inl (.inr (.inr ⟨s,hsm,.inr hk⟩))
 refine⟨setS n x L,⟨hh,H1.body.set H1.hd.lt hs hn hb hx hd fun k h1 h2 h3 h4=>ht2.block k h4 (fun hS=>hS.elim h1 fun hS'=>hS'.elim h2 h3),by rw [fils_set,H1.fil,hf],hok⟩,ht.trans ht2 hfoot,fun k hk=> ?_⟩;rcases foot_set hs hb hd k hk with h1|h1
 ·exact .inl h1
 ·exact .inr (η ht.size h1)
theorem Dz.putSafe {s:Aq} (h:Dz w s) (v:Int) (hb:Be s.sl≠some s.blk):Dz (w.setCell ⟨s.blk,1,none⟩ (Vi Vk v)) ⟨{s.fil with safe:=v},s.blk,s.sl⟩:=by
 refine⟨?_,h.2.kept fun g hg=> ?_⟩
 ·have e:(Lm s).setIfInBounds 1 (Vi Vk v)=Lm ⟨{s.fil with safe:=v},s.blk,s.sl⟩:=rfl;rw [←e];simp only [World.setCell];rw [Array.getElem?_modify];simp [h.1]
 ·simp only [World.setCell];rw [Array.getElem?_modify,γ (fun e=>hb (by rw [hg,e]))]
theorem Ir {d:Af} {b:Bool} (h:decide (d.fuse=1)=b):decide ((Ex d).fuse=1)=b:=h
theorem chg_set {d:Af} {o:Ls} {x:Bl} (hr:Fs d.files) (ha:Bf d.files o.name=some x) (h0:o.k≠0) (h3:o.k≠3) (h4:o.k≠4):Iq d o={d with files:=Fd o.name (fun _=>Ll o x) d.files}:=by
 unfold Iq;rw [γ h0,ha];simp only [γ h4,γ h3];rw [put_take hr ha];have:=(B8 ha).1;unfold Ll;split
 ·exact this
 ·split
  ·exact this
  ·split<;>exact this
end
section
variable {ops : Array Oper} {rest : List Oper} {o : Oper} {a : Act} {Q : Exit → Act → World → Prop}
theorem Px {L:List Aq}  (hg:o.guard=none) (x y:Operand) (hop:o.op=Op.call {callee:=Callee.builtin Builtin.delete,args:= #[x,y],argTypes:= #[93,9]})
  (hx:a.eval x= .map (some m)) (hy:a.eval y= .string ⟨n.toArray⟩) (hB:F3 w f m L) (hn:n.length≤1000)
  (hK: ∀ w',F3 w' f m (takeS n L)→w.grownBy w' (some m)→wpList prog ops Q rest (a.put o.dst (.tuple #[])) w'):wpList prog ops Q (o::rest) a w:=by
 refine wpList_plain hg fun K hKK=> ?_;obtain⟨w',hrun,h1,h2⟩:=hB.take hn o.type;unfold Oper.wp;simp [execOp,hop,resolve,invoke,builtin,hx,hy,hrun,Result.andThen];exact hKK _ _ (hK w' h1 h2)
theorem Pz {L:List Aq} {s:Aq}  (hg:o.guard=none) (x y z:Operand) (hop:o.op=Op.mapUpdate 93 x y z)
  (hx:a.eval x= .map (some m)) (hy:a.eval y= .string ⟨s.fil.name.toArray⟩) (hz:a.eval z=v) (hv:v= .pointer (some ⟨s.blk,0,none⟩)) (hB:F3 w f m L) (hn:s.fil.name.length≤1000) (hL:L.length≤1000000) (hs:Dz w s)
  (h1:s.blk≠f∧s.blk≠m∧Be s.sl≠some f∧Be s.sl≠some m∧Be s.sl≠some s.blk) (h2: ∀ t∈takeS s.fil.name L,Far s t)
  (hK: ∀ w',F3 w' f m (N2 s (takeS s.fil.name L))→w.grownBy w' (some m)→wpList prog ops Q rest (a.put o.dst undef) w'):wpList prog ops Q (o::rest) a w:=by
 subst hv;refine wpList_plain hg fun K hKK=> ?_;obtain⟨w',hrun,h3,h4⟩:=hB.put hn hL hs h1 h2;unfold Oper.wp;simp [execOp,hop,hx,hy,hz,hrun,Result.andThen];exact hKK _ _ (hK w' h3 h4)
end
theorem foot_take {L:List Aq} : ∀ k,foot f m (takeS n L) k→foot f m L k:=by
 rintro k (rfl|rfl|⟨t,ht,hk⟩)
 ·exact .inl rfl
 ·exact .inr (.inl rfl)
 ·exact .inr (.inr ⟨t,(List.mem_filter.1 ht).1,hk⟩)
theorem F3.setHd {L:List Aq} (h:F3 w f m L) (j:Nat) (v:Value):F3 (w.setCell ⟨f,j,none⟩ v) f m L:=h.kept fun k hk _=>by
 simp only [World.setCell]
 rw [Array.getElem?_modify,γ (fun e=>hk e.symm)]
theorem remove_any (w:World) (f m:Nat) (d:Af) (L:List Aq) (h:Bv w f m d L) (hs:d.steps<4611686018427387904) (n:List UInt8):
  Calls prog 92 #[.pointer (some ⟨f,0,none⟩),.string ⟨n.toArray⟩] w fun e w'=>e= .returned (Vi Vk (Bi d (Bb n)).2.2.2)∧A1 w f m L (Bi d (Bb n)).1 w':=by
 have HO:=Qh (La w f m d L h n);have HH:=Qh h;by_cases he:Av d n=0
 case neg=>
  have HE:=Qs (Bi d (Bb n)=(d,[],0,Av d n)) (by rw [Di (by simp [Bb]) (by rw [Mq];exact he),Mq]);have t1:(Av d n != 0)=true:=by simpa using he
  generalize Av d n=e0 at*;clear he h;go_enter func92,ntmps92;go_wp2_with (go_at_call 59;refine HO.out.mono ?_;rintro e w1 ⟨rfl,rfl⟩);go_ret;rw [HE.out];exact⟨rfl,A1.same HH.out⟩
 obtain⟨s,hs1,ha,hv,hr,hsm,hsn⟩:=Ps h he;have HD:=Qh (Is (d:=d) (o:=Bb n) (by simp [Bb]) (by rw [Mq];exact he));have HS:=Qh (Om w f m (Ex d) h.hd h.ok.fuse.1 h.ok.fuse.2 h.ok.steps hs);rw [he,hv] at HO;by_cases hf:d.fuse=1
 ·have HF:=Qh (Ir (ξ hf));have HE:=Qs (Bi d (Bb n)=(Ar d,[],0,3)) (by rw [HD.out,κ hf,γ (by simp [Bb]),κ hf]);clear h hs he hs1 ha hv hr hsm hsn hf HD;go_enter func92,ntmps92;go_wp2_with (first|(go_at_call 59;refine HO.out.mono ?_;rintro e w1 ⟨rfl,rfl⟩)|(go_at_call 84;refine HS.out.mono ?_;rw [HF.out];rintro e w1 ⟨rfl,hh,ht⟩));go_ret;rw [HE.out];exact⟨rfl,A1.stepped HH.out hh ht⟩
 ·have HF:=Qh (Ir (ρ hf));have HE:=Qs (Bi d (Bb n)=({Ar d with files:=takeF n (Ar d).files},[],0,0)) (by
   rw [HD.out,γ hf,γ hf];have ha':Bf (Ar d).files n=some s.fil:=by rw [Bo];exact ha
   simp only [Iq,Bb,ha'];rfl)
  have HSL:=Qs (D9 L n=some s∧s.fil.name=n∧Bf (Ar d).files n=some s.fil∧s∈L∧n.length≤1000) ⟨hs1,hsn,by rw [Bo];exact ha,hsm,Ks hr⟩;have HUB:=Qs (0≤(usedF (Ar d).files:Int) - (s.fil.data.length:Int)∧(usedF (Ar d).files:Int)≤67108864) (by
   have:=Fg (B8 ha).2;have:=h.ok.used;have:=h.ok.room;rw [Bo];omega)
  clear h hs he hs1 ha hv hr hsm hsn hf HD;go_enter func92,ntmps92;go_wp2_with (first|(go_at_call 59;refine HO.out.mono ?_;rintro e w1 ⟨rfl,rfl⟩));go_at_call 84;refine HS.out.mono ?_;rw [HF.out];rintro e w1 ⟨rfl,hh,ht⟩;have H0:=Qh (HH.out.stepped hh ht);have H1:=Qs (Bv w1.drew f m (Ar d) L) (H0.out.below (Ac w1 1));have HT:=Qs (Ab (foot f m L) w w1.drew) ((ht.mono fun _ hk=> .inl hk).trans (Ab.below (Ac w1 1)) fun _ h=> .inl h);have hsl:=H0.out.body.slot s HSL.out.2.2.2.1;obtain⟨ao,cap,hsh,_,_⟩:=hsl.2.shape;have c0:w1.cell? ⟨s.blk,0,none⟩=some (.slice ao s.fil.data.length cap):=by rw [←hsh];exact hsl.c0
  have c2:w1.cell? ⟨f,2,none⟩=some (Vi Vk (usedF (Ar d).files:Int)):=H0.out.hd.c2;have f2:=H0.out.hd.free 2;have hw:IntKind.i64.wrap ((usedF (Ar d).files:Int) - (s.fil.data.length:Int))=(usedF (Ar d).files:Int) - (s.fil.data.length:Int):=by
   have:=HUB.out;rw [ν];omega
  clear hh ht hsl HS HO;go_wp2_with fail;go_still_tail 12,(by kernel_rfl);refine Cc rfl 3 (.tmp 30) (.tmp 28) rfl f 2 (Vi Vk ((usedF (Ar d).files:Int) - (s.fil.data.length:Int))) (Vi Vk (usedF (Ar d).files:Int)) (by kernel_rfl) rfl rfl rfl c2 f2 ?_;intro w2 hw2;have HB2:=Qh (show E7 w2 f m {Ex (Ar d) with used:=(usedF (Ar d).files:Int) - (s.fil.data.length:Int)}∧F3 w2 f m L∧Ab (fun k=>k=f) w1.drew w2 by
   rw [hw2.out];exact⟨H1.out.hd.set 2 _ rfl,H1.out.body.setHd 2 _,Ab.setCell _ _ _ rfl⟩)
  have k0:=HB2.out.1.c0;clear hw2 c0 c2 f2 hw;go_wp2_with (at_delete;refine Px rfl _ _ rfl rfl rfl HB2.out.2.1 HSL.out.2.2.2.2 ?_);intro w3 hb3 hg3;have HB3:=Qh hb3;have HG3:=Qh hg3;clear hb3 hg3 k0;go_wp2;go_ret;rw [HE.out];have hlt:=HB2.out.1.lt;have hfm:=H1.out.body.apart.1;have ht3:Ab (foot f m L) w1.drew w3:=(HB2.out.2.2.mono fun _ hk=> .inl hk).trans (Ab.grown (S:=foot f m L) HG3.out fun k hk=> .inr (.inl (φ hk).symm)) fun _ h=> .inl h;refine⟨rfl,takeS n L,⟨?_,HB3.out,by rw [Mi,H1.out.fil],H1.out.ok.take n⟩,HT.out.trans ht3 fun _ h=> .inl h,fun k hk=> .inl (foot_take k hk)⟩;have hu:=Ea H1.out.ok.rise HSL.out.2.2.1;have e:Ex {Ar d with files:=takeF n (Ar d).files}={Ex (Ar d) with used:=(usedF (Ar d).files:Int) - (s.fil.data.length:Int)}:=by
   unfold Ex;simp only [Hd.mk.injEq,true_and,and_true];omega
  rw [e];exact HB2.out.1.kept (HG3.out.block f hlt (by simpa using hfm))
section
variable {ops : Array Oper} {rest : List Oper} {o : Oper} {a : Act} {Q : Exit → Act → World → Prop}
theorem Py {L:List Aq} (hg:o.guard=none) (x:Operand) (hop:o.op=Op.call {callee:=Callee.builtin Builtin.len,args:= #[x],argTypes:= #[93]})
  (hx:a.eval x= .map (some m)) (hB:F3 w f m L) (hK:wpList prog ops Q rest (a.put o.dst (Vi Vk (L.length:Int))) w):wpList prog ops Q (o::rest) a w:=by
 refine wpList_plain hg fun K hKK=> ?_;have hrun:=hB.map.len (P:=prog) underlying93 o.type;have e:Maps.size (DataW.map (It L))=L.length:=by simp [Maps.size,Ni]
 rw [e] at hrun;unfold Oper.wp;simp [execOp,hop,resolve,invoke,builtin,hx,hrun,Result.andThen];exact hKK _ _ hK
end
theorem foot_put {L:List Aq} {s:Aq}: ∀ k,foot f m (N2 s L) k→foot f m L k∨k=s.blk∨Be s.sl=some k:=by
 rintro k (rfl|rfl|⟨t,ht,hk⟩)
 ·exact .inl (.inl rfl)
 ·exact .inl (.inr (.inl rfl))
 ·rcases mem_putS.1 ht with rfl|ht
  ·exact .inr hk
  ·exact .inl (.inr (.inr ⟨t,ht,hk⟩))
theorem create_any (w:World) (f m:Nat) (d:Af) (L:List Aq) (h:Bv w f m d L) (hs:d.steps<4611686018427387904) (n:List UInt8):
  Calls prog 126 #[.pointer (some ⟨f,0,none⟩),.string ⟨n.toArray⟩] w fun e w'=>e= .returned (Vi Vk (Bi d (Ak n)).2.2.2)∧A1 w f m L (Bi d (Ak n)).1 w':=by
 have HO:=Qh (La w f m d L h n);have HH:=Qh h;have c0:=h.hd.c0;have hLl:L.length=d.files.length:=by rw [←h.fil];simp [Js]
 by_cases he:Av d n=51
 case neg=>
  by_cases h0:Av d n=0
  ·have HE:=Qs (Bi d (Ak n)=(d,[],0,52)) (by
    have hb:Ge d (Ak n)=52:=by rw [Jb,κ h0]
    rw [Di (by simp [Ak]) (by rw [hb];decide),hb])
   rw [h0] at HO;clear he h h0;go_enter func126,ntmps126;go_wp2_with (go_at_call 59;refine HO.out.mono ?_;rintro e w1 ⟨rfl,rfl⟩);go_ret;rw [HE.out];exact⟨rfl,A1.same HH.out⟩
  ·have HE:=Qs (Bi d (Ak n)=(d,[],0,Av d n)) (by
    have hb:Ge d (Ak n)=Av d n:=by rw [Jb,γ h0,κ he]
    rw [Di (by simp [Ak]) (by rw [hb];exact h0),hb])
   have t1:(Av d n==0)=false:=by simpa using h0
   have t2:(Av d n != 51)=true:=by simpa using he
   generalize Av d n=e0 at*;clear he h h0;go_enter func126,ntmps126;go_wp2_with (go_at_call 59;refine HO.out.mono ?_;rintro e w1 ⟨rfl,rfl⟩);go_ret;rw [HE.out];exact⟨rfl,A1.same HH.out⟩
 have hr:d.down=false∧Ao n=true∧Bf d.files n=none:=by
  rcases openE_cases d n with⟨h1,_⟩|⟨h1,_⟩|⟨_,h2,h3,h4⟩|⟨h1,_⟩
  ·omega
  ·omega
  ·exact⟨h2,h3,h4⟩
  ·omega
 have hv:Oi L d n= .pointer none:=by unfold Oi;rw [γ (by omega)]
 rw [he,hv] at HO;by_cases hfull:700≤d.files.length
 case pos=>
  have HE:=Qs (Bi d (Ak n)=(d,[],0,53)) (by
   have hb:Ge d (Ak n)=53:=by rw [Jb,γ (by omega),γ (by simpa using he),κ (by simpa using hfull)]
   rw [Di (by simp [Ak]) (by rw [hb];decide),hb])
  have t1:decide (700≤(L.length:Int))=true:=by simp;omega
  have t2:700≤L.length:=by omega
  clear he h hr hv hfull;go_enter func126,ntmps126;go_wp2_with (first|(go_at_call 59;refine HO.out.mono ?_;rintro e w1 ⟨rfl,rfl⟩)|(at_len;refine Py rfl _ rfl rfl HH.out.body ?_));go_ret;rw [HE.out];exact⟨rfl,A1.same HH.out⟩
 have t1:decide (700≤(L.length:Int))=false:=by simp;omega
 have t2: ¬ 700≤L.length:=by omega
 have hb0:Ge d (Ak n)=0:=by rw [Jb,γ (by omega),γ (by simpa using he),γ (by simpa using hfull)]
 have HD:=Qh (Is (d:=d) (o:=Ak n) (by simp [Ak]) hb0);have HS:=Qh (Om w f m (Ex d) h.hd h.ok.fuse.1 h.ok.fuse.2 h.ok.steps hs);by_cases hf:d.fuse=1
 ·have HF:=Qh (Ir (ξ hf));have HE:=Qs (Bi d (Ak n)=(Ar d,[],0,3)) (by rw [HD.out,κ hf,γ (by simp [Ak]),κ hf]);clear h hs he hr hv hf HD hb0 hfull;go_enter func126,ntmps126;go_wp2_with (first|(go_at_call 59;refine HO.out.mono ?_;rintro e w1 ⟨rfl,rfl⟩)|(at_len;refine Py rfl _ rfl rfl HH.out.body ?_)|(go_at_call 84;refine HS.out.mono ?_;rw [HF.out];rintro e w1 ⟨rfl,hh,ht⟩));go_ret;rw [HE.out];exact⟨rfl,A1.stepped HH.out hh ht⟩
 ·have HF:=Qh (Ir (ρ hf));have HE:=Qs (Bi d (Ak n)=({Ar d with files:=Dp ⟨n,[],0⟩ (Ar d).files},[],0,0)) (by
   rw [HD.out,γ hf,γ hf];rfl)
  have HR:=Qs (Ao n=true∧Bf (Ar d).files n=none∧(Ar d).files.length<700) (by rw [Bo];exact⟨hr.2.1,hr.2.2,by omega⟩);clear h hs he hr hv hf HD hb0 hfull;go_enter func126,ntmps126;go_wp2_with (first|(go_at_call 59;refine HO.out.mono ?_;rintro e w1 ⟨rfl,rfl⟩)|(at_len;refine Py rfl _ rfl rfl HH.out.body ?_));go_at_call 84;refine HS.out.mono ?_;rw [HF.out];rintro e w1 ⟨rfl,hh,ht⟩;have H1:=Qh (HH.out.stepped hh ht);have HT:=Qs (Ab (foot f m L) w w1) (ht.mono fun _ hk=> .inl hk);have HBL:=Qh (Aa w1 (.cells (Lm ⟨⟨n,[],0⟩,w1.heap.size,.slice none 0 0⟩) 109));have H2:=Qh (H1.out.below HBL.out);have k0:=H1.out.hd.c0;have HX:=Qs (Dz (w1.alloc (.cells (Lm ⟨⟨n,[],0⟩,w1.heap.size,.slice none 0 0⟩) 109)) ⟨⟨n,[],0⟩,w1.heap.size,.slice none 0 0⟩) ⟨σ w1 _,.inl ⟨rfl,none,rfl⟩⟩;have HN:=Qh (Ks HR.out.1);have hnone:D9 L n=none:=by
   have:=fils_at n L;rw [H1.out.fil,HR.out.2.1] at this;exact Option.map_eq_none_iff.1 this.symm
  have HTK:=Qs (takeS n L=L) (by
   unfold takeS;rw [List.filter_eq_self];intro x hx;have:=List.find?_eq_none.1 hnone x hx;simpa using this)
  have HL7:=Qs (L.length≤1000000) (by omega)
  have HF1:=Qh (show w1.heap.size≠f∧w1.heap.size≠m∧Be (.slice none 0 0)≠some f∧Be (.slice none 0 0)≠some m∧Be (.slice none 0 0)≠some w1.heap.size from
   ⟨fun e=>by have:=H1.out.hd.lt;omega,fun e=>by have:=H1.out.body.map.lt;omega,by simp [Be],by simp [Be],by simp [Be]⟩)
  have HF2:=Qh (show ∀ t∈takeS n L,Far ⟨⟨n,[],0⟩,w1.heap.size,.slice none 0 0⟩ t from fun t ht'=>by
   have ht2:=(List.mem_filter.1 ht').1;have h1:=H1.out.body.slot t ht2;exact⟨fun e=>by have:=h1.lt;simp only at e;omega,by simp [Be],fun e=>by have:=h1.2.lt e;simp only at this;omega,fun g hg=>by simp [Be] at hg⟩)
  clear hh ht HS HO c0 hnone;go_wp2_with (at_mapUpdate;refine Pz (s:=⟨⟨n,[],0⟩,w1.heap.size,.slice none 0 0⟩) rfl _ _ _ rfl rfl rfl rfl rfl H2.out.body HN.out HL7.out HX.out HF1.out HF2.out ?_);intro w3 hb3 hg3;have HB3:=Qh hb3;have HG3:=Qh hg3;clear hb3 hg3 k0;go_wp2;go_ret;rw [HE.out];have hfm:=H1.out.body.apart.1;have hb3:=HB3.out;rw [HTK.out] at hb3;have ht3:Ab (foot f m L) w1 w3:=(Ab.below HBL.out).trans (Ab.grown (S:=foot f m L) HG3.out fun k hk=> .inr (.inl (φ hk).symm)) fun _ h=> .inl h;refine⟨rfl,N2 ⟨⟨n,[],0⟩,w1.heap.size,.slice none 0 0⟩ L,⟨?_,hb3,by rw [fils_put,H1.out.fil],?_⟩,HT.out.trans ht3 fun _ h=> .inl h,fun k hk=> ?_⟩
  ·have e:Ex {Ar d with files:=Dp ⟨n,[],0⟩ (Ar d).files}=Ex (Ar d):=by
    unfold Ex;simp only [Fp,Φ,Nat.zero_add]
   rw [e];exact H2.out.hd.kept (HG3.out.block f H2.out.hd.lt (by simpa using hfm))
  ·refine H1.out.ok.put (f:=⟨n,[],0⟩) HR.out.1 ⟨by simp,by simp⟩ (fun x hx=> ?_) HR.out.2.2 (by simpa using H1.out.ok.used);have:=List.find?_eq_none.1 HR.out.2.1 x hx;simpa using this
  ·rcases foot_put k hk with h1|h1|h1
   ·exact .inl h1
   ·exact .inr (by rw [h1];exact HT.out.size)
   ·simp [Be] at h1
theorem take_twice {fs:List Bl}:takeF n (takeF n fs)=takeF n fs:=by
 unfold takeF;rw [List.filter_filter];simp
theorem setF_same {x:Bl} {fs:List Bl} (h:Fs fs) (ha:Bf fs n=some x):Fd n (fun _=>x) fs=fs:=by
 unfold Fd;rw [List.map_congr_left (g:=id) (fun y hy=>by
  by_cases hc:y.name=n
  ·rw [κ (by simpa using hc),rise_one h ha hy hc];rfl
  ·rw [γ (by simpa using hc)];rfl)]
 simp
theorem at_take {n t:List UInt8} {fs:List Bl} (h:n≠t):Bf (takeF n fs) t=Bf fs t:=by
 unfold Bf takeF
 induction fs with
 |nil=>rfl
 |cons y r ih=>
  by_cases hy:y.name=n
  ·rw [List.filter_cons_of_neg (by simpa using hy),List.find?_cons,show (y.name==t)=false by rw [hy];simpa using h];exact ih
  ·rw [List.filter_cons_of_pos (by simpa using hy),List.find?_cons,List.find?_cons];rw [ih]
theorem takeF_length {fs:List Bl}  {x:Bl} (ha:Bf fs n=some x):(takeF n fs).length<fs.length:=by
 obtain⟨h1,h2⟩:=B8 ha;exact List.length_filter_lt_length_iff_exists.2 ⟨x,h2,by simp [h1]⟩
theorem far_of {L:List Aq} (h:F3 w f m L) {s t:Aq} (hs:s∈L) (ht:t∈L) (hn:s.fil.name≠t.fil.name):Far s t:=by
 obtain⟨i,hi⟩:=List.getElem?_of_mem ht;obtain⟨j,hj⟩:=List.getElem?_of_mem hs;have hi':=List.getElem?_eq_some_iff.1 hi;have hj':=List.getElem?_eq_some_iff.1 hj;have hij:i≠j:=fun e=>hn (by subst e;rw [hi] at hj;cases hj;rfl);rcases Nat.lt_or_gt_of_ne hij with hlt|hlt
 ·have hF:=List.pairwise_iff_getElem.1 h.apart.2.2 i j hi'.1 hj'.1 hlt;rw [hi'.2,hj'.2] at hF;exact hF.symm
 ·have hF:=List.pairwise_iff_getElem.1 h.apart.2.2 j i hj'.1 hi'.1 hlt;rw [hi'.2,hj'.2] at hF;exact hF
theorem rename_end {w3 w4:World} {d1:Af} {L:List Aq}  {s:Aq} {used:Int} (H1:Bv w1 f m d1 L) (ht:Ab (foot f m L) w w1) (hs:D9 L n=some s) (ha:Bf d1.files n=some s.fil) (hnt:n≠t) (hr:Ao t=true)
  (hh2:E7 w2 f m {Ex d1 with used:=used}) (ht2:Ab (fun k=>k=f) w1 w2) (hu:used+(match Bf d1.files t with|none=>(0:Int)|some y=>(y.data.length:Int))=(usedF d1.files:Int))
  (hg3:w2.grownBy w3 (some m)) (hb4:F3 w4 f m (N2 ⟨{s.fil with name:=t},s.blk,s.sl⟩ (takeS t (takeS n L)))) (hg4:w3.grownBy w4 (some m)):
  A1 w f m L {d1 with files:=Dp {s.fil with name:=t} (takeF t (takeF n d1.files))} w4:=by
 have hsm:=(Ji hs).1;have hfm:=H1.body.apart.1;have hm: ∀ k,some m=some k→foot f m L k:=fun k hk=> .inr (.inl (φ hk).symm);have htt:Ab (foot f m L) w1 w4:=((ht2.mono (S':=foot f m L) fun _ hk=> .inl hk).trans (Ab.grown (S:=foot f m L) hg3 hm) fun _ h=> .inl h).trans (Ab.grown (S:=foot f m L) hg4 hm) fun _ h=> .inl h;refine⟨_,⟨?_,hb4,by rw [fils_put,Mi,Mi,H1.fil],?_⟩,ht.trans htt fun _ h=> .inl h,fun k hk=> .inl ?_⟩
 ·have h1:=Ea H1.ok.rise ha;have e:Ex {d1 with files:=Dp {s.fil with name:=t} (takeF t (takeF n d1.files))}={Ex d1 with used:=used}:=by
   unfold Ex;simp only [Hd.mk.injEq,true_and,and_true,Fp];rcases hy:Bf d1.files t with _|y
   ·rw [hy] at hu;rw [Lq (by rw [at_take hnt];exact hy)];simp only at hu;omega
   ·rw [hy] at hu;have h2:=Ea (Kt (n:=n) H1.ok.rise) (by rw [at_take hnt];exact hy);simp only at hu;omega
  rw [e];have l3:f<w3.heap.size:=Nat.lt_of_lt_of_le hh2.lt hg3.size;exact(hh2.kept (hg3.block f hh2.lt (by simpa using hfm))).kept (hg4.block f l3 (by simpa using hfm))
 ·have hok:=(H1.ok.take n).take t;have hsf:=H1.ok.safe s.fil (B8 ha).2;have hc:=takeF_length ha;have hc2:(takeF t (takeF n d1.files)).length≤(takeF n d1.files).length:=List.length_filter_le _ _;have h700:=H1.ok.count;refine A0.put (d:={d1 with files:=takeF t (takeF n d1.files)}) hok hr hsf (fun x hx=> ?_) (by show (takeF t (takeF n d1.files)).length<700;omega) ?_
  ·have:=(List.mem_filter.1 hx).2;simpa using this
  ·have h1:=Ea H1.ok.rise ha;have h2:usedF (takeF t (takeF n d1.files))≤usedF (takeF n d1.files):=by
    rcases hy:Bf (takeF n d1.files) t with _|y
    ·rw [Lq hy];exact μ _
    ·have:=Ea (Kt (n:=n) H1.ok.rise) hy;omega
   have h3:=H1.ok.used;show (usedF (takeF t (takeF n d1.files)):Int)+(s.fil.data.length:Int)≤d1.room;omega
 ·rcases foot_put k hk with h1|h1|h1
  ·exact foot_take k (foot_take k h1)
  ·exact .inr (.inr ⟨s,hsm,.inl h1⟩)
  ·exact .inr (.inr ⟨s,hsm,.inr h1⟩)
theorem rename_any (w:World) (f m:Nat) (d:Af) (L:List Aq) (h:Bv w f m d L) (hs:d.steps<4611686018427387904) (n t:List UInt8):
  Calls prog 171 #[.pointer (some ⟨f,0,none⟩),.string ⟨n.toArray⟩,.string ⟨t.toArray⟩] w fun e w'=>e= .returned (Vi Vk (Bi d (An n t)).2.2.2)∧A1 w f m L (Bi d (An n t)).1 w':=by
 have HO:=Qh (La w f m d L h n);have HRT:=Qh (Right_any t w);have HH:=Qh h;by_cases he:Av d n=0∨Av d n=51
 case neg=>
  have HE:=Qs (Bi d (An n t)=(d,[],0,Av d n)) (by
   have hb:Ge d (An n t)=Av d n:=by rw [Kf,γ (fun hx=>he hx.1)]
   rw [Di (by simp [An]) (by rw [hb];omega),hb])
  have t1:(Av d n==0)=false:=by rw [beq_eq_false_iff_ne];omega
  have t2:(Av d n==51)=false:=by rw [beq_eq_false_iff_ne];omega
  have t3:(Av d n != 0)=true:=by unfold bne;rw [t1];rfl
  generalize Av d n=e0 at*;clear he h;go_enter func171,ntmps171;go_wp2_with (go_at_call 59;refine HO.out.mono ?_;rintro e w1 ⟨rfl,rfl⟩);go_ret;rw [HE.out];exact⟨rfl,A1.same HH.out⟩
 rcases hrt:Ao t with _|_
 ·have HE:=Qs (Bi d (An n t)=(d,[],0,50)) (by
   have hb:Ge d (An n t)=50:=by rw [Kf,κ ⟨he,hrt⟩]
   rw [Di (by simp [An]) (by rw [hb];decide),hb])
  rw [hrt] at HRT;rcases he with he|he
  all_goals
   rw [he] at HO;clear he h hrt;go_enter func171,ntmps171;go_wp2_with (first|(go_at_call 59;refine HO.out.mono ?_;rintro e w1 ⟨rfl,rfl⟩)|(go_at_call 95;refine HRT.out.mono ?_;rintro e w1 ⟨rfl,rfl⟩));go_ret;rw [HE.out];exact⟨rfl,A1.same HH.out⟩
 rw [hrt] at HRT;by_cases he0:Av d n=0
 case neg=>
  have he51:Av d n=51:=by omega
  have HE:=Qs (Bi d (An n t)=(d,[],0,51)) (by
   have hb:Ge d (An n t)=51:=by rw [Kf,γ (fun hx=>by rw [hrt] at hx;cases hx.2),he51]
   rw [Di (by simp [An]) (by rw [hb];decide),hb])
  rw [he51] at HO;clear he h hrt he0 he51;go_enter func171,ntmps171;go_wp2_with (first|(go_at_call 59;refine HO.out.mono ?_;rintro e w1 ⟨rfl,rfl⟩)|(go_at_call 95;refine HRT.out.mono ?_;rintro e w1 ⟨rfl,rfl⟩));go_ret;rw [HE.out];exact⟨rfl,A1.same HH.out⟩
 obtain⟨s,hs1,ha,hv,hr,hsm,hsn⟩:=Ps h he0;have hb0:Ge d (An n t)=0:=by rw [Kf,γ (fun hx=>by rw [hrt] at hx;cases hx.2)];exact he0
 have HD:=Qh (Is (d:=d) (o:=An n t) (by simp [An]) hb0);have HS:=Qh (Om w f m (Ex d) h.hd h.ok.fuse.1 h.ok.fuse.2 h.ok.steps hs);rw [he0,hv] at HO;by_cases hf:d.fuse=1
 ·have HF:=Qh (Ir (ξ hf));have HE:=Qs (Bi d (An n t)=(Ar d,[],0,3)) (by rw [HD.out,κ hf,γ (by simp [An]),κ hf]);clear h hs he he0 hs1 ha hv hr hsm hsn hf HD hb0 hrt;go_enter func171,ntmps171;go_wp2_with (first|(go_at_call 59;refine HO.out.mono ?_;rintro e w1 ⟨rfl,rfl⟩)|(go_at_call 95;refine HRT.out.mono ?_;rintro e w1 ⟨rfl,rfl⟩)|(go_at_call 84;refine HS.out.mono ?_;rw [HF.out];rintro e w1 ⟨rfl,hh,ht⟩));go_ret;rw [HE.out];exact⟨rfl,A1.stepped HH.out hh ht⟩
 have HF:=Qh (Ir (ρ hf));have ha':Bf (Ar d).files n=some s.fil:=by rw [Bo];exact ha
 have hrise:Fs (Ar d).files:=by rw [Bo];exact h.ok.rise
 have HE0:=Qs (Bi d (An n t)=({Ar d with files:=Dp {s.fil with name:=t} (takeF t (takeF n (Ar d).files))},[],0,0)) (by
  rw [HD.out,γ hf,γ hf];have e:Iq (Ar d) (An n t)={Ar d with files:=Dp (Ll (An n t) s.fil) (takeF t (takeF n (Ar d).files))}:=by
   simp only [Iq,An,ha'];rfl
  rw [e];rfl)
 by_cases hnt:n=t
 ·have HE:=Qs (Bi d (An n t)=(Ar d,[],0,0)) (by
   rw [HE0.out];have e1:({s.fil with name:=t}:Bl)=s.fil:=by rw [←hnt,←hsn]
   rw [e1,←hnt,take_twice,put_take hrise ha' hsn,setF_same hrise ha'])
  have t1:(n==t)=true:=by simpa using hnt
  clear h hs he he0 hs1 ha hv hr hsm hsn hf HD hb0 hrt ha' hrise HE0 hnt;go_enter func171,ntmps171;go_wp2_with (first|(go_at_call 59;refine HO.out.mono ?_;rintro e w1 ⟨rfl,rfl⟩)|(go_at_call 95;refine HRT.out.mono ?_;rintro e w1 ⟨rfl,rfl⟩)|(go_at_call 84;refine HS.out.mono ?_;rw [HF.out];rintro e w1 ⟨rfl,hh,ht⟩));go_ret;rw [HE.out];exact⟨rfl,A1.stepped HH.out hh ht⟩
 have t1:(n==t)=false:=by simpa using hnt
 have HSL:=Qs (D9 L n=some s∧s.fil.name=n∧Bf (Ar d).files n=some s.fil∧s∈L∧n.length≤1000∧t.length≤1000∧n≠t∧Ao t=true) ⟨hs1,hsn,ha',hsm,Ks hr,Ks hrt,hnt,hrt⟩;have hrm:=h.ok.room;have hus:=h.ok.used;have HU:=Qs ((usedF (Ar d).files:Int)≤67108864) (by rw [Bo];omega);have HL7:=Qs (L.length≤700) (by have:=h.ok.count;rw [←h.fil] at this;simpa [Js] using this);clear h hs he he0 hs1 ha hv hr hsm hsn hf HD hb0 hrt ha' hrise hnt hrm hus;go_enter func171,ntmps171;go_wp2_with (first|(go_at_call 59;refine HO.out.mono ?_;rintro e w1 ⟨rfl,rfl⟩)|(go_at_call 95;refine HRT.out.mono ?_;rintro e w1 ⟨rfl,rfl⟩));go_at_call 84;refine HS.out.mono ?_;rw [HF.out];rintro e w1 ⟨rfl,hh,ht⟩;have H1:=Qh (HH.out.stepped hh ht);have HT:=Qs (Ab (foot f m L) w w1) (ht.mono fun _ hk=> .inl hk);have c0:=H1.out.hd.c0;have hlook:=H1.out.body.look HSL.out.2.2.2.2.2.1;have hat:=fils_at t L;rw [H1.out.fil] at hat;clear hh ht HS HO;rcases hy:D9 L t with _|y
 ·rw [hy] at hlook hat;simp only at hlook;simp only [Option.map_none] at hat;have HAT:=Qh hat;have HYN:=Qh hy;clear hat hy;go_wp2_with (at_delete;refine Px rfl (.tmp 57) (.tmp 58) rfl rfl rfl H1.out.body HSL.out.2.2.2.2.1 ?_);intro w3 hb3 hg3;have HB3:=Qh hb3;have HG3:=Qh hg3;have c3:w3.cell? ⟨f,0,none⟩=some (.map (some m)):=(H1.out.hd.kept (hg3.block f H1.out.hd.lt (by simpa using H1.out.body.apart.1))).c0;clear hb3 hg3 hlook c0;have hslot:=H1.out.body.slot s HSL.out.2.2.2.1;have hap:=H1.out.body.apart.2.1 s HSL.out.2.2.2.1;have HX:=Qs (Dz w3 ⟨{s.fil with name:=t},s.blk,s.sl⟩) (by
   have:=hslot.kept (HG3.out.block s.blk hslot.lt (by simpa using hap.2.1)) fun g hg=>HG3.out.block g (hslot.2.lt hg) (fun e=>hap.2.2.2.1 (by rw [hg,e]));exact⟨this.1,this.2⟩)
  have HFar:=Qh (show ∀ y∈takeS t (takeS n L),Far ⟨{s.fil with name:=t},s.blk,s.sl⟩ y from fun y hy=>by
   have h1:=List.mem_filter.1 (List.mem_filter.1 hy).1;have hF:=far_of H1.out.body HSL.out.2.2.2.1 h1.1 (by rw [HSL.out.2.1];have:=h1.2;simp at this;exact fun e=>this e.symm);exact hF)
  have HAP:=Qh hap;have HLL:=Qs ((takeS n L).length≤1000000) (by have:=takeS_length n L;have:=HL7.out;omega);clear hslot hap;go_wp2_with (at_mapUpdate;refine Pz (s:=⟨{s.fil with name:=t},s.blk,s.sl⟩) rfl (.tmp 62) (.tmp 63) (.tmp 64) rfl rfl rfl rfl rfl HB3.out HSL.out.2.2.2.2.2.1 HLL.out HX.out HAP.out HFar.out ?_);intro w4 hb4 hg4;have HB4:=Qh hb4;have HG4:=Qh hg4;clear hb4 hg4 c3;go_wp2;go_ret;rw [HE0.out];refine⟨rfl,rename_end H1.out HT.out HSL.out.1 HSL.out.2.2.1 HSL.out.2.2.2.2.2.2.1 HSL.out.2.2.2.2.2.2.2 (used:=(usedF (Ar d).files:Int)) H1.out.hd (Ab.refl _ _) ?_ HG3.out HB4.out HG4.out⟩;rw [HAT.out];simp
 ·rw [hy] at hlook hat;simp only at hlook;simp only [Option.map_some] at hat;have HAT:=Qh hat;have hym:=(Ji hy).1;have hsl:=H1.out.body.slot y hym;obtain⟨ao,cap,hsh,_,_⟩:=hsl.2.shape;have c4:w1.cell? ⟨y.blk,0,none⟩=some (.slice ao y.fil.data.length cap):=by rw [←hsh];exact hsl.c0
  have c2:w1.cell? ⟨f,2,none⟩=some (Vi Vk (usedF (Ar d).files:Int)):=H1.out.hd.c2;have f2:=H1.out.hd.free 2;have hyl:=Fg (B8 hat).2;have hw:IntKind.i64.wrap ((usedF (Ar d).files:Int) - (y.fil.data.length:Int))=(usedF (Ar d).files:Int) - (y.fil.data.length:Int):=by
   have:=HU.out;rw [ν];omega
  have H1d:=Qs (Bv w1.drew f m (Ar d) L) (H1.out.below (Ac w1 1));clear hat hy hym hsl hyl;go_wp2_with fail;go_still_tail 12,(by kernel_rfl);refine Cc rfl 3 (.tmp 53) (.tmp 51) rfl f 2 (Vi Vk ((usedF (Ar d).files:Int) - (y.fil.data.length:Int))) (Vi Vk (usedF (Ar d).files:Int)) (by kernel_rfl) rfl rfl rfl c2 f2 ?_;intro w2 hw2;have HB2:=Qh (show E7 w2 f m {Ex (Ar d) with used:=(usedF (Ar d).files:Int) - (y.fil.data.length:Int)}∧F3 w2 f m L∧Ab (fun k=>k=f) w1 w2 by
   rw [hw2.out];exact⟨H1d.out.hd.set 2 _ rfl,H1d.out.body.setHd 2 _,(Ab.below (Ac w1 1)).trans (Ab.setCell (S:=fun k=>k=f) w1.drew ⟨f,2,none⟩ _ rfl) fun i h=> .inl h⟩)
  have k0:w2.cell? ⟨f,0,none⟩=some (.map (some m)):=HB2.out.1.c0;clear hw2 c0 c2 f2 c4 hw hlook;go_wp2_with (at_delete;refine Px rfl (.tmp 57) (.tmp 58) rfl rfl rfl HB2.out.2.1 HSL.out.2.2.2.2.1 ?_);intro w3 hb3 hg3;have HB3:=Qh hb3;have HG3:=Qh hg3;have c3:w3.cell? ⟨f,0,none⟩=some (.map (some m)):=(HB2.out.1.kept (hg3.block f HB2.out.1.lt (by simpa using H1.out.body.apart.1))).c0;clear hb3 hg3 k0;have hslot:=HB2.out.2.1.slot s HSL.out.2.2.2.1;have hap:=H1.out.body.apart.2.1 s HSL.out.2.2.2.1;have HX:=Qs (Dz w3 ⟨{s.fil with name:=t},s.blk,s.sl⟩) (by
   have:=hslot.kept (HG3.out.block s.blk hslot.lt (by simpa using hap.2.1)) fun g hg=>HG3.out.block g (hslot.2.lt hg) (fun e=>hap.2.2.2.1 (by rw [hg,e]));exact⟨this.1,this.2⟩)
  have HFar:=Qh (show ∀ y∈takeS t (takeS n L),Far ⟨{s.fil with name:=t},s.blk,s.sl⟩ y from fun y hy=>by
   have h1:=List.mem_filter.1 (List.mem_filter.1 hy).1;have hF:=far_of H1.out.body HSL.out.2.2.2.1 h1.1 (by rw [HSL.out.2.1];have:=h1.2;simp at this;exact fun e=>this e.symm);exact hF)
  have HAP:=Qh hap;have HLL:=Qs ((takeS n L).length≤1000000) (by have:=takeS_length n L;have:=HL7.out;omega);clear hslot hap;go_wp2_with (at_mapUpdate;refine Pz (s:=⟨{s.fil with name:=t},s.blk,s.sl⟩) rfl (.tmp 62) (.tmp 63) (.tmp 64) rfl rfl rfl rfl rfl HB3.out HSL.out.2.2.2.2.2.1 HLL.out HX.out HAP.out HFar.out ?_);intro w4 hb4 hg4;have HB4:=Qh hb4;have HG4:=Qh hg4;clear hb4 hg4 c3;go_wp2;go_ret;rw [HE0.out];refine⟨rfl,rename_end H1.out HT.out HSL.out.1 HSL.out.2.2.1 HSL.out.2.2.2.2.2.2.1 HSL.out.2.2.2.2.2.2.2 (used:=(usedF (Ar d).files:Int) - (y.fil.data.length:Int)) HB2.out.1 HB2.out.2.2 ?_ HG3.out HB4.out HG4.out⟩;rw [HAT.out];simp only;omega
theorem Lg (w:World) (f m:Nat) (d:Af) (L:List Aq) (h:Bv w f m d L) (hs:d.steps<4611686018427387904) (n:List UInt8):
  Calls prog 55 #[.pointer (some ⟨f,0,none⟩),.string ⟨n.toArray⟩] w fun e w'=>e= .returned (Vi Vk (Bi d (Ag n)).2.2.2)∧A1 w f m L (Bi d (Ag n)).1 w':=by
 have HO:=Qh (La w f m d L h n);have HH:=Qh h;by_cases he:Av d n=0
 case neg=>
  have HE:=Qs (Bi d (Ag n)=(d,[],0,Av d n)) (by rw [Di (by simp [Ag]) (by rw [Mr];exact he),Mr]);have t1:(Av d n != 0)=true:=by simpa using he
  generalize Av d n=e0 at*;clear he h;go_enter func55,ntmps55;go_wp2_with (go_at_call 59;refine HO.out.mono ?_;rintro e w1 ⟨rfl,rfl⟩);go_ret;rw [HE.out];exact⟨rfl,A1.same HH.out⟩
 obtain⟨s,hs1,ha,hv,hr,hsm,hsn⟩:=Ps h he;have HD:=Qh (Is (d:=d) (o:=Ag n) (by simp [Ag]) (by rw [Mr];exact he));have HS:=Qh (Om w f m (Ex d) h.hd h.ok.fuse.1 h.ok.fuse.2 h.ok.steps hs);rw [he,hv] at HO;by_cases hf:d.fuse=1
 ·have HF:=Qh (Ir (ξ hf));have HE:=Qs (Bi d (Ag n)=(Ar d,[],0,3)) (by rw [HD.out,κ hf,γ (by simp [Ag]),κ hf]);clear h hs he hs1 ha hv hr hsm hsn hf HD;go_enter func55,ntmps55;go_wp2_with (first|(go_at_call 59;refine HO.out.mono ?_;rintro e w1 ⟨rfl,rfl⟩)|(go_at_call 84;refine HS.out.mono ?_;rw [HF.out];rintro e w1 ⟨rfl,hh,ht⟩));go_ret;rw [HE.out];exact⟨rfl,A1.stepped HH.out hh ht⟩
 ·have HF:=Qh (Ir (ρ hf));have hrise:Fs (Ar d).files:=by rw [Bo];exact h.ok.rise
  have HE:=Qh (show Bi d (Ag n)=({Ar d with files:=Fd n (fun _=>{s.fil with safe:=(s.fil.data.length:Int)}) (Ar d).files},[],0,0) by
   rw [HD.out,γ hf,γ hf,chg_set (x:=s.fil) hrise (by rw [Bo];exact ha) (by simp [Ag]) (by simp [Ag]) (by simp [Ag])];rfl)
  have HSL:=Qs (D9 L n=some s∧s.fil.name=n∧Bf (Ar d).files n=some s.fil∧s∈L) ⟨hs1,hsn,by rw [Bo];exact ha,hsm⟩;clear h hs he hs1 ha hv hr hsm hsn hf HD hrise;go_enter func55,ntmps55;go_wp2_with (first|(go_at_call 59;refine HO.out.mono ?_;rintro e w1 ⟨rfl,rfl⟩));go_at_call 84;refine HS.out.mono ?_;rw [HF.out];rintro e w1 ⟨rfl,hh,ht⟩;have H1:=Qh (HH.out.stepped hh ht);have HT:=Qh ht;have hsl:=H1.out.body.slot s HSL.out.2.2.2;have c0:=hsl.c0;have c1:=hsl.c1;have f1:=hsl.free 1;obtain⟨ao,cap,hsh,_,_⟩:=hsl.2.shape;rw [hsh] at c0;clear hh ht hsl;go_wp2;go_ret;rw [HE.out];have hap:=(H1.out.body.apart.2.1 s HSL.out.2.2.2);have hsl:=H1.out.body.slot s HSL.out.2.2.2;refine⟨rfl,A1.setFile (x:=⟨{s.fil with safe:=(s.fil.data.length:Int)},s.blk,s.sl⟩) H1.out (HT.out.mono fun _ hk=> .inl hk) HSL.out.1 HSL.out.2.1 rfl (Ab.setCell _ ⟨s.blk,1,none⟩ _ (.inr (.inl rfl))) (hsl.putSafe _ hap.2.2.2.2) (fun _ hg=> .inl hg) ?_ rfl ?_⟩
  ·have hh:=H1.out.hd.otherCell (k:=s.blk) hap.1.symm 1 (Vi Vk (s.fil.data.length:Int));have hu:=If (f':=⟨s.fil.name,s.fil.data,(s.fil.data.length:Int)⟩) H1.out.ok.rise HSL.out.2.2.1 HSL.out.2.1;have e:Ex {Ar d with files:=Fd n (fun _=>{s.fil with safe:=(s.fil.data.length:Int)}) (Ar d).files}=Ex (Ar d):=by
    unfold Ex;simp only at hu ⊢;rw [show usedF (Fd n (fun _=>⟨s.fil.name,s.fil.data,(s.fil.data.length:Int)⟩) (Ar d).files)=usedF (Ar d).files by omega]
   rw [e];exact hh
  ·exact H1.out.ok.setFile HSL.out.2.2.1 HSL.out.2.1 ⟨by simp,by simp⟩ (by have:=H1.out.ok.used;simp only;omega)
theorem F3.setHd' {L:List Aq} (h:F3 w f m L) (j:Nat) (v:Value):F3 (w.setCell ⟨f,j,none⟩ v) f m L:=h.kept fun k hk _=>by
 simp only [World.setCell]
 rw [Array.getElem?_modify,γ (fun e=>hk e.symm)]
theorem Mw {d:Af} :Bi d (Ek n)=if Av d n≠0 then (d,[],0,Av d n) else (d,[],match Bf d.files n with|none=>0|some f=>(f.data.length:Int),0):=by
 by_cases he:Av d n=0
 ·rw [γ (by simpa using he)];unfold Bi;rw [γ (by simp [Ek]),γ (by simp [Ek]),γ (by simp [Ek]),γ (by rw [bar_size];simpa using he),γ (by simp [Ek]),κ (by simp [Ek])];rfl
 ·rw [κ he,Di (by simp [Ek]) (by rw [bar_size];exact he),bar_size]
theorem Ol (w:World) (f m:Nat) (d:Af) (L:List Aq) (h:Bv w f m d L) (n:List UInt8):
  Calls prog 71 #[.pointer (some ⟨f,0,none⟩),.string ⟨n.toArray⟩] w fun e w'=>e= .returned (.tuple #[Vi Vk (Bi d (Ek n)).2.2.1,Vi Vk (Bi d (Ek n)).2.2.2])∧w=w':=by
 have HO:=Qh (La w f m d L h n);by_cases he:Av d n=0
 case neg=>
  have HE:=Qs (Bi d (Ek n)=(d,[],0,Av d n)) (by rw [Mw,κ he]);have t1:(Av d n != 0)=true:=by simpa using he
  generalize Av d n=e0 at*;clear he h;go_enter func71,ntmps71;go_wp2_with (go_at_call 59;refine HO.out.mono ?_;rintro e w1 ⟨rfl,rfl⟩);go_ret2;rw [HE.out];exact⟨rfl,rfl⟩
 obtain⟨s,hs1,ha,hv,hr,hsm,hsn⟩:=Ps h he;have HE:=Qs (Bi d (Ek n)=(d,[],(s.fil.data.length:Int),0)) (by rw [Mw,γ (by simpa using he),ha]);have hsl:=h.body.slot s hsm;obtain⟨ao,cap,hsh,_,_⟩:=hsl.2.shape;have c0:=hsl.c0;rw [hsh] at c0;rw [he,hv] at HO;clear h he hs1 ha hv hr hsm hsn hsl hsh;go_enter func71,ntmps71;go_wp2_with (go_at_call 59;refine HO.out.mono ?_;rintro e w1 ⟨rfl,rfl⟩);go_ret2;rw [HE.out];exact⟨rfl,rfl⟩
theorem doD_fuse (d:Af) (n:Int):Bi d (opFuse n)=({d with fuse:=if 0<n then n else 0},[],0,0):=by
 unfold Bi;rw [γ (by simp [opFuse]),κ (by simp [opFuse])];rfl
theorem fuse_any (w:World) (f m:Nat) (d:Af) (L:List Aq) (h:Bv w f m d L) (n:Int) (hn:n≤9223372036854775807):
  Calls prog 25 #[.pointer (some ⟨f,0,none⟩),Vi Vk n] w fun e w'=>e= .returned (.tuple #[])∧A1 w f m L (Bi d (opFuse n)).1 w':=by
 have c5:=h.hd.c5;have f5:=h.hd.free 5;have HH:=Qh h;have HE:=Qh (doD_fuse d n);clear h;go_enter func25,ntmps25;go_wp2;go_end0;rw [HE.out];have hm:max 0 n=if 0<n then n else 0:=by split<;>omega
 refine⟨rfl,L,⟨?_,HH.out.body.setHd' 5 _,HH.out.fil,?_⟩,Ab.setCell _ _ _ foot_f,fun _ h=> .inl h⟩
 ·rw [hm];exact HH.out.hd.set 5 _ rfl
 ·have hk:=HH.out.ok;refine⟨hk.rise,hk.names,hk.safe,hk.count,hk.room,hk.used,?_,hk.steps,hk.reads⟩;show 0≤(if 0<n then n else 0)∧(if 0<n then n else 0)≤9223372036854775807;split<;>omega
theorem free_any (w:World) (f m:Nat) (d:Af) (L:List Aq) (h:Bv w f m d L):
  Calls prog 69 #[.pointer (some ⟨f,0,none⟩)] w fun e w'=>e= .returned (Vi Vk (d.room - (usedF d.files:Int)))∧Below w.heap.size w w':=by
 have c1:=h.hd.c1;have c2:=h.hd.c2;have hr:=h.ok.room;have hu:=h.ok.used;have hw:IntKind.i64.wrap ((Ex d).room - (Ex d).used)=d.room - (usedF d.files:Int):=by
  show IntKind.i64.wrap (d.room - (usedF d.files:Int))=_;rw [ν];omega
 clear h;go_enter func69,ntmps69;go_wp2
 go_quiet (fail)
 go_wp2;go_ret;exact⟨rfl,Ac _ _⟩
theorem dropF_cons {α:Type} {l:List α}  {x:α} (h:l[k]? =some x):l.drop k=x::l.drop (k+1):=by
 obtain⟨h1,h2⟩:=List.getElem?_eq_some_iff.1 h;rw [List.drop_eq_getElem_cons h1,h2]
section
variable {w : World} {g : Nat} {o : Ls} {bv kv : Value}
end
theorem tkl {md:Region.Mode} {S:World→Prop} {d:Option Tmp} {ty:TypeId} {x:Operand} {t:TypeId} {p:String}  {g:Option (Nat×Bool)} {fuel:Nat} 
  (i:Nat) (b o:Nat) (cs:List Value) {de:TypeDesc} (hi:ops[i]? =some ⟨d,.load ty x,t,p,af,g⟩) (hx:a.eval x= .pointer (some ⟨b,o,none⟩)) (hc: ∀ w,S w→w.rangeAt b o cs) (hu:P.underlying ty=some de) (hd:de.isRow=true) (hin:(P.info? ty).map (·.size)=some cs.length)
  (h:wpAnyH P md ops Q S fuel (listed.setIfInBounds i true) (a.put d (.agg cs.toArray)) w)
  (hs:Region.noSelect ops=true:=by kernel_rfl) (hf:Region.free md ops listed i=true:=by kernel_rfl) (hr:(Region.ready md ops listed).contains i=true:=by kernel_rfl)
  (hQ: ∀ c a w,Q (.panic c) (a.put d (.agg cs.toArray)) w→Q (.panic c) a w:=by exact fun _ _ _ h=>h) (hw:Region.wanted ⟨d,.load ty x,t,p,af,g⟩ (yielded ops a.tmps)=true:=by kernel_rfl) (hS:S w:=by assumption):
  wpAnyH P md ops Q S (fuel+1) listed a w:=wpAnyH_take hi hs hf hr hQ (yieldsIf_load_mid hw ty x rfl b o hx cs de hc hu hd hin) hS h
theorem bar_front {d:Af} {o:Ls} (h:Ge d o=0):d.down=false∧Ao o.name=true∧(o.k=3→Ao o.to=true):=by
 unfold Ge at h;rcases hd:d.down
 ·rw [hd] at h;simp only [Bool.false_eq_true,if_false] at h;rcases hr:Ao o.name
  ·rw [hr] at h;simp at h
  ·rw [hr] at h;refine⟨rfl,rfl,fun hk=> ?_⟩;rcases ht:Ao o.to
   ·rw [ht,hk] at h;simp at h
   ·rfl
 ·rw [hd] at h;simp at h
theorem bar_none {d:Af} {o:Ls} (h:Ge d o=0) (ha:Bf d.files o.name=none):o.k=0∧d.files.length<700:=by
 obtain⟨h1,h2,h3⟩:=bar_front h;unfold Ge at h;rw [h1,h2,ha] at h;by_cases h0:o.k=0
 ·refine⟨h0,?_⟩;simp [h0] at h;exact h
 ·exfalso;by_cases hk:o.k=3
  ·have:=h3 hk;simp [hk,this] at h
  ·simp [h0,hk] at h
theorem bar_some {d:Af} {o:Ls} {f:Bl} (h:Ge d o=0) (ha:Bf d.files o.name=some f):
  o.k≠0∧(o.k=1→(o.b.length:Int)≤d.room - (usedF d.files:Int))∧(o.k=5→0≤o.n∧o.n≤(f.data.length:Int))∧(o.k=6→0≤o.n∧0≤o.m∧o.n≤(f.data.length:Int)∧o.m≤(f.data.length:Int) - o.n):=by
 obtain⟨h1,h2,h3⟩:=bar_front h;unfold Ge at h;rw [h1,h2,ha] at h;have h4:(decide (o.k=3)&& !Ao o.to)=false:=by
  by_cases hk:o.k=3
  ·rw [h3 hk];simp
  ·simp [hk]
 simp only [h4,Bool.not_true,Bool.or_false,Bool.false_eq_true,if_false] at h;by_cases h0:o.k=0
 ·exfalso;simp [h0] at h
 ·simp only [h0,decide_false,Bool.false_eq_true,if_false] at h;refine⟨h0,fun hk=> ?_,fun hk=> ?_,fun hk=> ?_⟩
  ·simp [hk] at h;omega
  ·simp [hk] at h;omega
  ·simp [hk] at h;omega
theorem chgF_cases (o:Ls) (f:Bl) (h3:o.k≠3):(o.k=1∧Ll o f={f with data:=f.data++o.b})∨(o.k=2∧Ll o f={f with safe:=(f.data.length:Int)})∨
  (o.k=5∧Ll o f={f with data:=f.data.take o.n.toNat,safe:=if o.n<f.safe then o.n else f.safe})∨Ll o f=f:=by
 unfold Ll;by_cases h1:o.k=1
 ·exact .inl ⟨h1,by rw [κ h1]⟩
 by_cases h2:o.k=2
 ·exact .inr (.inl ⟨h2,by rw [γ h1,κ h2]⟩)
 by_cases h5:o.k=5
 ·exact .inr (.inr (.inl ⟨h5,by rw [γ h1,γ h2,γ h3,κ h5]⟩))
 ·exact .inr (.inr (.inr (by rw [γ h1,γ h2,γ h3,γ h5])))
theorem chgD_ok {d x:Af} {o:Ls} (h:A0 x) (hf:x.files=d.files) (hr:x.room=d.room) (hb:Ge d o=0):A0 (Iq x o):=by
 obtain⟨b1,b2,b3⟩:=bar_front hb;rcases ha:Bf d.files o.name with _|f
 ·obtain⟨c1,c2⟩:=bar_none hb ha;unfold Iq;rw [κ c1];refine h.put (f:=⟨o.name,[],0⟩) b2 ⟨by simp,by simp⟩ (fun y hy=> ?_) (by rw [hf];exact c2) (by simpa using h.used);rw [hf] at hy;have:=List.find?_eq_none.1 ha y hy;simpa using this
 ·obtain⟨c1,c2,c3,c4⟩:=bar_some hb ha;have hax:Bf x.files o.name=some f:=by rw [hf];exact ha
  obtain⟨hfn,hfm⟩:=B8 hax;have hs:=h.safe f hfm;have hu:=h.used;by_cases h4:o.k=4
  ·unfold Iq;rw [γ c1,hax];simp only [κ h4];exact h.take _
  by_cases h3:o.k=3
  ·unfold Iq;rw [γ c1,hax];simp only [γ h4,κ h3];have e:Ll o f={f with name:=o.to}:=by
    unfold Ll;rw [γ (by omega),γ (by omega),κ h3]
   rw [e];have k1:=h.take o.name;have k2:=k1.take o.to;have hl1:=takeF_length hax;have hl2:(takeF o.to (takeF o.name x.files)).length≤(takeF o.name x.files).length:=List.length_filter_le _ _;have hc:=h.count;have u1:=Ea h.rise hax;have u2:usedF (takeF o.to (takeF o.name x.files))≤usedF (takeF o.name x.files):=by
    rcases hat:Bf (takeF o.name x.files) o.to with _|y
    ·rw [On hat];exact μ _
    ·have:=Ea (fs:=takeF o.name x.files) k1.rise hat;omega
   have:=k2.put (f:={f with name:=o.to}) (b3 h3) hs (fun y hy=>by
    have:=(List.mem_filter.1 hy).2;simpa using this) (by show (takeF o.to (takeF o.name x.files)).length<700;omega) (by show (usedF (takeF o.to (takeF o.name x.files)):Int)+f.data.length≤x.room;omega)
   exact this
  ·rw [chg_set (x:=f) h.rise hax c1 h3 h4];rcases chgF_cases o f h3 with⟨hk1,e⟩|⟨hk1,e⟩|⟨hk1,e⟩|e
   ·have:=c2 hk1;rw [e];refine h.setFile hax hfn ?_ ?_
    ·simp only [ζ];omega
    ·simp only [ζ];rw [hf,hr];omega
   ·rw [e];exact h.setFile hax hfn (by simp only;omega) (by simp only;omega)
   ·have:=c3 hk1;rw [e];refine h.setFile hax hfn ?_ ?_
    ·simp only [ω];split<;>omega
    ·simp only [ω];omega
   ·rw [e];exact h.setFile hax hfn hs (by omega)
theorem doD_ok {d:Af} {o:Ls} (h:A0 d) (h8:o.k≠8) (hn:o.n≤9223372036854775807):A0 (Bi d o).1:=by
 by_cases h9:o.k=9
 ·unfold Bi;rw [γ h8,κ h9];refine⟨h.rise,h.names,h.safe,h.count,h.room,h.used,?_,h.steps,h.reads⟩;show 0≤(if 0<o.n then o.n else 0)∧(if 0<o.n then o.n else 0)≤9223372036854775807;split<;>omega
 by_cases hr:o.k<0∨9<o.k
 ·unfold Bi;rw [γ h8,γ h9,κ hr];exact h
 have hk:0≤o.k∧o.k≤7:=by omega
 by_cases hb:Ge d o=0
 ·by_cases h5:o.k≤5
  ·rw [Is ⟨hk.1,h5⟩ hb];have hs:A0 (Iq (Ar d) o):=chgD_ok (d:=d) h.step (Bo d) (M7 d) hb;by_cases hf:d.fuse=1
   ·simp only [κ hf];split
    ·exact hs
    ·exact h.step
   ·simp only [γ hf];exact hs
  ·unfold Bi;rw [γ h8,γ h9,γ hr,γ (by simpa using hb)];by_cases h6:o.k=6
   ·rw [κ h6];have hm:0≤o.m:=by
     rcases ha:Bf d.files o.name with _|f
     ·have:=(bar_none hb ha).1;omega
     ·exact((bar_some hb ha).2.2.2 h6).2.1
    exact⟨h.rise,h.names,h.safe,h.count,h.room,h.used,h.fuse,h.steps,by show -9223372036854775808≤IntKind.i64.wrap (d.reads+o.m)∧IntKind.i64.wrap (d.reads+o.m)≤9223372036854775807;rw [ν];omega⟩
   ·rw [γ h6,κ (by omega)];exact h
 ·rw [Di hk hb];exact h
def Mh (r:Int):Int:=if r<0 then 0 else if 67108864<r then 67108864 else r
def Lp (r:Int):Af:=⟨[],Mh r,0,false,0,0⟩
theorem clamp_bounds (r:Int):0≤Mh r∧Mh r≤67108864:=by unfold Mh;split<;>(try split)<;>omega
theorem newD_ok (r:Int):A0 (Lp r) where
 rise:=List.Pairwise.nil
 names:=fun _ h=>by cases h
 safe:=fun _ h=>by cases h
 count:=θ _
 room:=clamp_bounds r
 used:=by have:=(clamp_bounds r).1;simpa [Lp,usedF] using this
 fuse:=⟨Int.le_refl _,by show (0:Int)≤9223372036854775807;decide⟩
 steps:=Int.le_refl _
 reads:=by show (-9223372036854775808:Int)≤0∧(0:Int)≤9223372036854775807;decide
section
open Go.RowKit Go.Maps Go.Sort
theorem sortNone (p:Option Addr) (cap:Nat) (w:World):
  Calls prog 75 #[.slice p 0 cap] w fun e w'=>e= .returned (.tuple #[])∧w'=w:=Any.slices_Sort_string_none lays190 p cap w
def ptrV:Option Nat→Value
 |none=> .pointer none
 |some g=> .pointer (some ⟨g,0,none⟩)
theorem ptrElem_inv {y:DataW Unit×List MemPlace} (h:ptrElem v=some y): ∃ c,v=ptrV c:=by
 unfold ptrElem at h;split at h
 ·exact⟨none,rfl⟩
 ·exact⟨some _,rfl⟩
 ·cases h
theorem before_le: ∀ {a b:List UInt8},bytesBefore a b=true→a≤b
 | [],_,_=>List.nil_le _
 |x::a,[],h=>by simp [bytesBefore] at h
 |x::a,y::b,h=>by
  rw [bytesBefore] at h
  rcases Nat.lt_trichotomy x.toNat y.toNat with h1|h1|h1
  ·exact List.cons_le_cons_iff.2 (.inl (by rw [UInt8.lt_iff_toNat_lt];exact h1))
  ·have e:x=y:=UInt8.toNat_inj.1 h1
   subst e
   simp at h
   exact List.cons_le_cons_iff.2 (.inr ⟨rfl,before_le h⟩)
  ·exfalso
   simp at h
   rcases h with h|h
   ·have:=UInt8.lt_iff_toNat_lt.1 h;omega
   ·rw [h.1] at h1;omega
def Cu (L:List Aq):List (List UInt8):=L.map fun s=>s.fil.name
theorem names_sorted {L:List Aq} {ss:List (List UInt8)} (h:Fs (Js L)) (hp:ss.Perm (Cu L)):ss.mergeSort (fun x y=>decide (x≤y))=Cu L:=by
 refine List.Perm.eq_of_pairwise (le:=fun a b=>decide (a≤b)=true) (fun a b _ _ h1 h2=> ?_) (List.pairwise_mergeSort (fun a b c h1 h2=> ?_) (fun a b=> ?_) _) ?_ ((List.mergeSort_perm _ _).trans hp)
 ·exact List.le_antisymm (ψ h1) (ψ h2)
 ·exact ξ (List.le_trans (ψ h1) (ψ h2))
 ·rw [Bool.or_eq_true,decide_eq_true_eq,decide_eq_true_eq];exact List.le_total a b
 ·unfold Fs Js at h;rw [List.pairwise_map] at h;unfold Cu;rw [List.pairwise_map];exact h.imp fun hab=>ξ (before_le hab)
theorem strKeys_ents (L:List Aq):strKeys (DataW.map (It L))=Cu L:=by
 simp [strKeys,It,Cu,strOf,Function.comp]
theorem fsNames_any (w:World) (f m:Nat) (d:Af) (L:List Aq) (h:Bv w f m d L) (hL:L.length≤1000000):
  Calls prog 46 #[.pointer (some ⟨f,0,none⟩)] w fun e w'=> ∃ v,e= .returned v∧w'.ownsRow w.heap.size 9 1 v L.length ((Cu L).map encStr)∧Below w.heap.size w w':=by
 obtain⟨i0,hi,hz0,hz1,hz2⟩:=info_parts (show (prog.info? 9).map (fun i=>(i.zero,i.size,i.bytes))=some (some (.string ⟨#[]⟩),1,16) by kernel_rfl);have c0:=h.hd.c0;have HOWN:=Qh h.body.map;have HR:=Qh h.body.rise;have hml:=h.body.map.lt;have HML:=Qh hml;have hsz:Maps.size (DataW.map (It L))=L.length:=by simp [Maps.size,Ni]
 clear h;go_enter func46,ntmps46
 go_wp2_with (first
  |(at_range;refine wpList_range_own _ rfl _ 93 rfl 9 107 (string_keyed underlying9) underlying93 ptrElem m L.length _ rfl HOWN.out ?_;intro w0 hrg0 hg0 hs0))
 go_frame
 go_loopw [3,4] (fun v _ wr=> ∃ (left:Lit→Bool) (cnt:Nat) (ss:List (List UInt8)),wr.ranges prog 9 ptrElem m w.heap.size L.length (.map (It L)) left cnt∧ss.length+cnt≤L.length∧
   wr.ownsRow w.heap.size 9 1 v ss.length (ss.map encStr)∧Hid (Collected (DataW.map (It L)) left ss)∧RowKit.Below w.heap.size w wr)
  (fun _ _ wr=>wr.rangeLeft m w.heap.size)
 case atStart=>
  exact⟨_,_,[],hrg0,by simp [hsz],World.ownsRow_nil _ _ _ _,Qh (Collected.start _),(RowKit.Below.refl _ _).grown hg0 (μ _) (fun j hj=>by cases hj)⟩
 case round=>
  obtain⟨left,cnt,ss,hrg,hcs,hrow,HC,hnx⟩:=hrel;have HNX:=Qh hnx
  go_wp2_with (first
   |(at_next;refine wpList_next_ranges _ rfl _ rfl 9 (string_keyed underlying9) ptrElem encStr ptrV (fun key kl hk=>by obtain⟨x,hx,_⟩:=Maps.keyOf_str underlying9 hk;exact⟨x,hx⟩) (fun v y hv=>ptrElem_inv hv) m w.heap.size L.length _ _ _ rfl hrg ?_ ?_))
  ·
   intro hc0 hl0;have hperm:ss.Perm (Cu L):=by rw [←strKeys_ents];exact HC.out.perm HOWN.out (string_keyed underlying9) underlying9 hl0
   have hlen:ss.length=L.length:=by rw [hperm.length_eq];simp [Cu]
   have HSO:=Qh (names_sorted HR.out hperm);clear hperm HC hl0;rcases hrow.2 with⟨rfl,hnil⟩|⟨g,cap,cur,rfl,hbase,hb,h1,h2,h3,h4⟩
   ·have hn:Cu L=[]:=List.length_eq_zero_iff.1 (by rw [show (Cu L).length=L.length by simp [Cu],←hlen];exact hnil);have HR0:=Qs (wr.ownsRow w.heap.size 9 1 (.slice none 0 0) L.length ((Cu L).map encStr)) (by rw [hn,←hlen,hnil];exact World.ownsRow_nil _ _ _ _);clear hrow hnil hn hlen;go_wp2_with (go_at_call 75;refine(sortNone none 0 wr).mono ?_;rintro e w1 ⟨rfl,rfl⟩);go_ret;exact⟨_,rfl,HR0.out,HNX.out⟩
   ·have HH:=Qh (holds_of_block (ss:=ss) hb (by simpa using h4));have HGL:=Qh (δ.1 hb).1;have HOS:=Qh (fun(n:Nat) (os:Array Obj)=>ownsRow_sorted (n:=n) (os:=os) (base:=w.heap.size) (cap:=cap) (ss:=ss) (ts:=Cu L) (by simp [Cu,hlen]) hbase hb h1 h2 h3);have HBS:=Qh hbase;have hll:ss.length<4611686018427387904:=by omega
    have HLEN:=Qh hlen;clear hrow hb h4 h3 h2 hbase hlen;go_wp2_with fail;refine(slices_Sort_string g 0 cap ss wr HH.out HGL.out hll).mono ?_;rintro e w1 ⟨rfl,nn,os,hw1⟩;rw [HSO.out] at hw1;have HB:=Qs (RowKit.Below w.heap.size w w1) (by rw [hw1];exact HNX.out.grown (grownBy_sorted (g:=g) (n:=nn) (os:=os) (Cu L).toArray) HNX.out.size (fun k e=>by cases e;exact HBS.out));have HW:=Qs (w1.ownsRow w.heap.size 9 1 (.slice (some ⟨g,0,none⟩) ss.length cap) ss.length ((Cu L).map encStr)) (by rw [hw1];exact HOS.out nn os);clear hw1;go_wp2;go_ret;exact⟨_,rfl,by rw [←HLEN.out];exact HW.out,HB.out⟩
  ·
   intro x c kl yd yp w2 cnt2 hkey hlk hv hat hrg2 hlt hg2 hs2 hen;obtain⟨x',ex,rfl,_⟩:=Maps.keyOf_str underlying9 hkey;obtain rfl:x=x':=encStr_inj ex;have hrow2:=hrow.kept hg2 (Or.inr (row_ne_iter hrow hrg).symm);clear hs2
   go_wp2_with (first
    |(at_builtin;refine wpList_append_own _ rfl _ _ 73 rfl w.heap.size 9 i0 (.string ⟨#[]⟩) 1 16 underlying73 hi hz0 hz1 hz2 rfl (by decide) _ _ _ rfl (hrow2.alloc _) ⟨w2.heap.size,0,none⟩ 1 1 [encStr x] rfl rfl (cell_one_new _ _ _) (by simp [Value.oneCell',encStr]) (by unfold maxLen at *;omega) (by omega) (by have:=hnx.size;have:=hg2.size;simp;omega) ?_;intro v' w3 hown' hg3 hnil3;go_frame))
   have hrg3:=(hrg2.alloc _).kept hg3 (row_ne_low hrow2 hml) (row_ne_iter hrow2 hrg2);go_roundw
   case rel=>
    refine⟨_,cnt2,ss++[x],hrg3,by simp;omega,by simpa using hown',Qh (HC.out.step hlk hat),?_⟩;exact((hnx.grown hg2 hnx.size (fun j hj=>by cases hj;exact μ _)).alloc (by have:=hnx.size;have:=hg2.size;omega) _).grown hg3 (by have:=hnx.size;have:=hg2.size;simp;omega) (fun j hj=>(hrow2.lt j hj).1)
   case measure=>rw [hrg3.left_eq,hrg.left_eq];exact hlt
theorem slice_none_eq (w:World) (n cap:Nat):(binOp .eql 39 (.slice none n cap) (.slice none 0 0)).run prog w= .ok (.bool true) w:=by kernel_rfl
theorem slice_some_eq (w:World) (ad:Addr) (n cap:Nat):(binOp .eql 39 (.slice (some ad) n cap) (.slice none 0 0)).run prog w= .ok (.bool false) w:=by kernel_rfl
theorem clone_any (l:List UInt8) (v:Value) (w:World) (hv:B7 w v l) (hn:l.length≤140737488355328):
  Calls prog 47 #[v] w fun e w'=> ∃ v',e= .returned v'∧Cw w' w.heap.size v' l∧Below w.heap.size w w':=by
 obtain⟨oa,cap,rfl,hl,hc⟩:=hv;rcases oa with _|ad
 ·have hz:l=[]:=by
   by_cases h:l=[]
   ·exact h
   ·obtain⟨b,off,e,_⟩:=hc h;cases e
  subst hz;have h1:=slice_none_eq w 0 cap;clear hc hl hn;go_enter func47,ntmps47;go_wp2;go_ret;exact⟨_,rfl,Cw.nil _ _,χ _ _⟩
 ·have HV:=Qs (B7 w (.slice (some ad) l.length cap) l) ⟨_,cap,rfl,hl,hc⟩;have h1:=slice_some_eq w ad l.length cap;have hln:([]:List UInt8).length+l.length≤140737488355328:=by simpa using hn
  have HO:=Qs (Cw (w.alloc (.cells #[] 5)) w.heap.size (.slice (some ⟨w.heap.size,0,none⟩) 0 0) []) (own_fresh w 5 1 w.heap.size (μ _));have HB:=Qh (Aa w (.cells #[] 5));have HV1:=Qs (B7 (w.alloc (.cells #[] 5)) (.slice (some ad) l.length cap) l) (by
   obtain⟨oa,cp,e,h3,h4⟩:=HV.out;exact⟨oa,cp,e,h3,fun hn=>by obtain⟨b,off,e1,hcc⟩:=h4 hn;exact⟨b,off,e1,fun i x hx=>cell_later HB.out (hcc i x hx)⟩⟩)
  clear hc hn hl;go_enter func47,ntmps47;go_wp2_with (at_builtin;refine E4 rfl _ _ rfl rfl rfl HO.out ?c1 HV1.out hln ?_)
  case c1=>exact HB.out.size
  intro v' w' h2 h3;have HF:=Qh h2;have HG:=Qh (HB.out.trans h3);clear h2 h3;go_wp2;go_ret;exact⟨_,rfl,HF.out,HG.out⟩
theorem fsNew_any (room:Int) (w:World):
  Calls prog 10 #[Vi Vk room] w fun e w'=> ∃ f m,e= .returned (.pointer (some ⟨f,0,none⟩))∧Bv w' f m (Lp room) []∧w.heap.size≤f∧w.heap.size≤m∧Below w.heap.size w w':=by
 have hmk:(Instr.makeMap 93 none).run prog w= .ok (.map (some w.heap.size)) (w.alloc (.map #[] 0)):=rfl;have sz:(w.alloc (.map #[] 0)).heap.size=w.heap.size+1:=by simp
 have hm:min (max 0 room) 67108864=Mh room:=by unfold Mh;split<;>(try split)<;>omega
 have HH:=Qs (E7 ((w.alloc (.map #[] 0)).alloc (.cells (hdCs w.heap.size (Ex (Lp room))) 95)) (w.heap.size+1) w.heap.size (Ex (Lp room))) (by
  rw [←sz];exact σ _ _)
 have HM:=Qh ((w.ownsMap_made prog 9 ptrElem).alloc (.cells (hdCs w.heap.size (Ex (Lp room))) 95));have HB:=Qh (Below.next (Aa w (.map #[] 0)) (Aa _ (.cells (hdCs w.heap.size (Ex (Lp room))) 95)));clear sz;go_enter func10,ntmps10;go_wp2;go_ret
 have hbd:F3 ((w.alloc (.map #[] 0)).alloc (.cells (hdCs w.heap.size (Ex (Lp room))) 95)) (w.heap.size+1) w.heap.size []:=
  {map:=HM.out,slot:=fun s hs=>(Ω hs).elim,rise:=List.Pairwise.nil,apart:=And.intro (by omega) (And.intro (fun s hs=>(Ω hs).elim) List.Pairwise.nil)}
 refine⟨w.heap.size+1,w.heap.size,rfl,?_,by omega,by omega,?_⟩
 ·exact⟨HH.out,hbd,rfl,newD_ok room⟩
 ·exact HB.out
end
theorem run_eql4 (xs ys:List UInt8) (hx:xs.length=4) (hy:ys.length=4) (w:World):(binOp .eql 220 (.agg (Lib.byteCells xs).toArray) (.agg (Lib.byteCells ys).toArray)).run prog w= .ok (.bool (xs==ys)) w:=
 run_eql_bytes (P:=prog) w 220 5 4 underlying220 underlying5 (fun w=>by kernel_rfl) xs ys hx hy
theorem run_arr4 (a:Option Addr) (len cap:Nat) (h:4≤len) (w:World):(Instr.arrayAt 220 (.slice a len cap)).run prog w= .ok (.pointer a) w:=by
 unfold Instr.arrayAt;rw [Sem.run_bind,run_underlying underlying220 w];simp [show ¬ len<4 by omega]
theorem range_bytes {b off:Nat}  (h: ∀ (i:Nat) x,l[i]? =some x→w.cell? ⟨b,off+i,none⟩=some (.int .u8 (x.toNat:Int))):w.rangeAt b off (Lib.byteCells l):=fun j u hj=>by
 rw [Lib.byteCells,List.getElem?_map] at hj
 obtain⟨x,hx,rfl⟩:=Option.map_eq_some_iff.1 hj
 exact h j x hx
theorem closed_any (l:List UInt8) (v:Value) (w:World) (hv:B7 w v l) (hl:l.length≤9223372036854775807) (hn:Bh w):
  Calls prog 98 #[v] w fun e w'=>e= .returned (.bool (K3 l))∧Below w.heap.size w w':=by
 rcases hq:decide (4≤l.length) with _|_
 ·have hq4:=Γ hq;have HE:=Qs (K3 l=false) (by unfold K3;rw [hq];rfl);obtain⟨oa,cap,rfl,hlc,hc⟩:=hv;have q1:(l.length:Int) - 4<0:=by omega
  clear hc hq;go_enter func98,ntmps98;go_wp2;go_ret;exact⟨by rw [HE.out];rfl,χ _ _⟩
 ·have hq4:=ψ hq;obtain⟨n,hn4⟩: ∃ n,l.length=n+4:=⟨l.length - 4,by omega⟩;have HE:=Qs (K3 l=(l.drop n==Ew (Gg (l.take n)))) (by unfold K3;rw [hq,hn4,Nat.add_sub_cancel];rfl);have HV:=Qh (fun W (hb:Below w.heap.size w W)=>hv.below hb);have HNB:=Qh hn;obtain⟨oa,cap,rfl,hlc,hc⟩:=hv;obtain⟨b,off,rfl,hcell⟩:=hc (by rintro rfl;simp at hq4);have HRG:=Qs (w.rangeAt b (off+n) (Lib.byteCells (l.drop n))) (range_bytes (fun i x hx=>by rw [List.getElem?_drop] at hx;rw [Nat.add_assoc];exact hcell _ x hx));have HSM:=Qh (fun W oa' cap' (hb:Below w.heap.size w W) (hv:B7 W (.slice oa' n cap') (l.take n))=>crcSum_any (l.take n) _ W hv (hn.below hb) (by rw [ω];omega));have HLD:=Qs ((l.drop n).length=4) (by rw [Λ];omega);obtain⟨s,hs⟩: ∃ s,s=Gg (l.take n):=⟨_,rfl⟩;rw [←hs] at HE HSM;have hcn: ¬ cap=n:=by omega
  have q1: ¬ (l.length:Int) - 4<0:=by omega
  have q2:(l.length:Int) - 4=(n:Int):=by omega
  have HBR:=Qh (HV.out w (χ _ _));have hnl:n≤l.length:=by omega
  clear hc hcell hs hq hn;have e2: ∀ w,(Instr.slice 39 (.slice (some ⟨b,off,none⟩) l.length cap) (some (Vi Vk (n:Int))) none none).run prog w= .ok (.slice (some ⟨b,off+n,none⟩) 4 (cap - n)) w:=fun w=>by
   rw [Ok _ _ _ _ hnl,sliced,γ hcn,show l.length - n=4 by omega];simp [Addr.add]
  have e3: ∀ w,(Instr.sliceAt 39 (.slice (some ⟨b,off,none⟩) l.length cap) (some (Vi Vk (n:Int))) none none).run prog w= .ok (.slice (some ⟨b,off+n,none⟩) 4 (cap - n)) w:=fun w=>by rw [Id,e2]
  have e4:=run_arr4 (some ⟨b,off+n,none⟩) 4 (cap - n) (by decide);have e5:=run_eql4 (l.drop n) (Ew s) HLD.out rfl;obtain⟨ls,hls⟩: ∃ x,x=Lib.byteCells (l.drop n):=⟨_,rfl⟩;obtain⟨rs,hrs⟩: ∃ x,x=Lib.byteCells (Ew s):=⟨_,rfl⟩;obtain⟨bb,hbb⟩: ∃ x,x=(l.drop n==Ew s):=⟨_,rfl⟩;rw [←hls] at HRG e5;rw [←hrs,←hbb] at e5;have HRS:=Qh hrs;rw [←hbb] at HE;have hll:ls.length=4:=by rw [hls,Lib.byteCells,List.length_map,HLD.out]
  have hrl:rs.length=4:=by rw [hrs];rfl
  have HLL:=Qh hll;have HRL:=Qh hrl;clear hls hrs hbb HLD hll hrl hn4 hq4;go_enter func98,ntmps98;go_wp2_with (with_reducible refine Pv rfl (.tmp 10) (.tmp 11) rfl (some ⟨b,off,none⟩) cap n l rfl rfl HBR.out hnl ?_);intro oa' cap' hbr;go_wp2_with fail;refine(HSM.out w oa' cap' (χ _ _) hbr).mono ?_;rintro e w1 ⟨rfl,hb1⟩;have HB1:=Qh hb1;have HR1:=Qh (fun W (hb:Below w1.heap.size w1 W)=>Bs HRG.out (Below.next hb1 hb));clear hbr hb1 HSM HV;go_wp2_with fail;refine ε (S:=fun w'=>Below w1.heap.size w1 w') (by kernel_rfl) (show Below w1.heap.size w1 w1.drew from Ac w1 1) (fun hHeld=> ?_);refine tq 0 rfl ?_;refine tq 1 rfl ?_;refine tq 2 rfl ?_;refine tq 3 rfl ?_;refine tq 5 rfl ?_;refine tkl 4 b (off+n) ls rfl rfl (fun w' h=>HR1.out w' h) underlying220 rfl (by rw [HLL.out];kernel_rfl) ?_;simp only [pA,pB,pC,pD];generalize World.drew _=Wd at*;refine Rd 6 rfl fun K hK=> ?_;go_simp;go_at_call 105;refine(crcFour_any s Wd).mono ?_;rintro e w2 ⟨v2,rfl,ho2,hb2⟩;obtain⟨g,cap2,rfl,_,_,hc2,_,hcell2⟩:=Dr ho2 (by decide);have HB2:=Qh (Below.next hHeld hb2);have HR2:=Qh (fun W (hb:Below w2.heap.size w2 W)=>Bs (show w2.rangeAt g 0 rs by rw [HRS.out];exact fun j u hj=>by rw [Nat.zero_add];exact hcell2 j u hj) hb);have e6:=run_arr4 (some ⟨g,0,none⟩) 4 cap2 (by decide);clear ho2 hb2 hHeld hcell2 HRS;go_wp2_with fail;refine hK.out _ _ HB2.out (fun hHeld=> ?_);clear hK K;refine tq 7 rfl ?_;refine Rd 8 rfl fun K hK=> ?_;refine wp_load_mid 220 (.tmp 21) rfl g 0 rfl rs _ (HR2.out _ (χ _ _)) underlying220 rfl (by rw [HRL.out];kernel_rfl) ?_;refine hK.out _ _ HB2.out (fun hHeld=> ?_);clear hK K;refine tk 9 rfl ?v_1 ?hy_1 ?r_1
  case hy_1=>intro w hSw;go_simp;try with_reducible rfl
  simp only [pA];refine tk 10 rfl ?v_2 ?hy_2 ?r_2
  case hy_2=>intro w hSw;go_simp;try with_reducible rfl
  simp only [pA];refine Ξ (by kernel_rfl) ?_ _;clear hHeld;go_wp2;go_ret;exact⟨by rw [HE.out];rfl,Below.next HB1.out HB2.out⟩
end Go.Proofs.YtgkdenejkcngnaaGreatDoor
