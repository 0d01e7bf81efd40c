import Derived.ProofKit
import Derived.Test.YtlobohpbgghleaaGreatDoorTk
import Derived.Laws.BitsAllLaws
import Derived.Lib.LaidTab
import Derived.Lib.SmallJoins
import Derived.Test.YtlobohpbgghleaaGreatDoorApp
namespace Go.Proofs.YtlobohpbgghleaaGreatDoor

/-! ## the checksum: nibble by nibble is bit by bit -/

def crcPoly : BitVec 32 := 0xEDB88320#32
/-- the register behind one bit -/
def crcBit (c : BitVec 32) : BitVec 32 := if c.getLsbD 0 then (c >>> 1) ^^^ crcPoly else c >>> 1
def crcBits : Nat → BitVec 32 → BitVec 32
  | 0, c => c
  | n + 1, c => crcBits n (crcBit c)
def crcTable : List (BitVec 32) := [0x00000000#32, 0x1db71064#32, 0x3b6e20c8#32, 0x26d930ac#32, 0x76dc4190#32, 0x6b6b51f4#32, 0x4db26158#32, 0x5005713c#32,
  0xedb88320#32, 0xf00f9344#32, 0xd6d6a3e8#32, 0xcb61b38c#32, 0x9b64c2b0#32, 0x86d3d2d4#32, 0xa00ae278#32, 0xbdbdf21c#32]
/-- the register behind four bits, by the table -/
def crcNib (c : BitVec 32) : BitVec 32 := (c >>> 4) ^^^ crcTable.getD (c.toNat % 16) 0
/-- the register behind a byte -/
def crcTake (c : BitVec 32) (x : UInt8) : BitVec 32 := crcBits 8 (c ^^^ BitVec.ofNat 32 x.toNat)
def crcStep (c : BitVec 32) (x : UInt8) : BitVec 32 := crcNib (crcNib (c ^^^ BitVec.ofNat 32 x.toNat))

theorem crcBit_xor (a b : BitVec 32) : crcBit (a ^^^ b) = crcBit a ^^^ crcBit b := by
  unfold crcBit
  rw [BitVec.getLsbD_xor]
  rcases h : a.getLsbD 0 <;> rcases h' : b.getLsbD 0 <;> simp [BitVec.ushiftRight_xor_distrib]
  · ac_rfl
  · ac_rfl
  · have : ∀ x y : BitVec 32, x ^^^ y = x ^^^ crcPoly ^^^ (y ^^^ crcPoly) := fun x y => by
      rw [show x ^^^ crcPoly ^^^ (y ^^^ crcPoly) = x ^^^ y ^^^ (crcPoly ^^^ crcPoly) by ac_rfl, BitVec.xor_self, BitVec.xor_zero]
    exact this _ _
theorem crcBits_xor : ∀ (n : Nat) (a b : BitVec 32), crcBits n (a ^^^ b) = crcBits n a ^^^ crcBits n b
  | 0, _, _ => rfl
  | n + 1, a, b => by simp only [crcBits, crcBit_xor, crcBits_xor n]
theorem crcBit_low {c : BitVec 32} (h : c.getLsbD 0 = false) : crcBit c = c >>> 1 := by unfold crcBit; rw [h]; rfl
theorem crcBits_low : ∀ (n : Nat) (c : BitVec 32), (∀ i, i < n → c.getLsbD i = false) → crcBits n c = c >>> n
  | 0, c, _ => by simp [crcBits]
  | n + 1, c, h => by
    rw [crcBits, crcBit_low (h 0 (by omega)), crcBits_low n _ (fun i hi => by rw [BitVec.getLsbD_ushiftRight]; exact h (1 + i) (by omega)), ← BitVec.shiftRight_add]
    rw [Nat.add_comm]
theorem crcTable_ok : ∀ n, n < 16 → crcBits 4 (BitVec.ofNat 32 n) = crcTable.getD n 0 := by decide
theorem crc_parts (c : BitVec 32) : c = ((c >>> 4) <<< 4) ^^^ BitVec.ofNat 32 (c.toNat % 16) := by
  apply BitVec.eq_of_getLsbD_eq
  intro i hi
  rw [BitVec.getLsbD_xor, BitVec.getLsbD_shiftLeft, BitVec.getLsbD_ushiftRight, BitVec.getLsbD_ofNat, show (16 : Nat) = 2 ^ 4 from rfl, Nat.testBit_mod_two_pow]
  by_cases h4 : i < 4
  · simp [h4, hi, BitVec.getLsbD]
  · simp only [h4, hi, decide_true, decide_false, Bool.true_and, Bool.false_and, Bool.not_false, Bool.xor_false, Bool.and_false]
    rw [show 4 + (i - 4) = i by omega]
theorem crcNib_bits (c : BitVec 32) : crcNib c = crcBits 4 c := by
  have h := crc_parts c
  have h1 : crcBits 4 ((c >>> 4) <<< 4) = c >>> 4 := by
    rw [crcBits_low 4 _ (fun i hi => by simp [BitVec.getLsbD_shiftLeft, hi])]
    apply BitVec.eq_of_getLsbD_eq
    intro i hi
    simp only [BitVec.getLsbD_ushiftRight, BitVec.getLsbD_shiftLeft]
    by_cases h5 : 4 + i < 32
    · simp [h5]
    · simp [h5, BitVec.getLsbD_of_ge c (4 + i) (by omega)]
  rw [crcNib]
  conv => rhs; rw [h]
  rw [crcBits_xor, h1, crcTable_ok _ (Nat.mod_lt _ (by decide))]
theorem crcBits_add : ∀ (m n : Nat) (c : BitVec 32), crcBits (m + n) c = crcBits n (crcBits m c)
  | 0, n, c => by simp [crcBits]
  | m + 1, n, c => by rw [show m + 1 + n = (m + n) + 1 by omega, crcBits, crcBits_add m n, crcBits]
/-- the table's step is the bitwise one -/
theorem crcStep_take (c : BitVec 32) (x : UInt8) : crcStep c x = crcTake c x := by
  unfold crcStep crcTake
  rw [crcNib_bits, crcNib_bits, ← crcBits_add]

/-- the register behind bytes -/
def crcReg (c : BitVec 32) (l : List UInt8) : BitVec 32 := l.foldl crcTake c
theorem crcReg_snoc (c : BitVec 32) (l : List UInt8) (x : UInt8) : crcReg c (l ++ [x]) = crcTake (crcReg c l) x := by simp [crcReg]
def crcUpdate (s : BitVec 32) (l : List UInt8) : BitVec 32 := ~~~ crcReg (~~~ s) l
def crcSum (l : List UInt8) : BitVec 32 := crcUpdate 0 l
/-- four bytes, the lowest first -/
def fourOf (s : BitVec 32) : List UInt8 := [UInt8.ofNat (s.toNat % 256), UInt8.ofNat (s.toNat / 256 % 256), UInt8.ofNat (s.toNat / 65536 % 256), UInt8.ofNat (s.toNat / 16777216)]
theorem fourOf_inj {a b : BitVec 32} (h : fourOf a = fourOf b) : a = b := by
  have ha := a.isLt
  have hb := b.isLt
  simp only [fourOf, List.cons.injEq, and_true] at h
  obtain ⟨h0, h1, h2, h3⟩ := h
  have g : ∀ x y : Nat, x < 256 → y < 256 → UInt8.ofNat x = UInt8.ofNat y → x = y := fun x y hx hy e => by
    have := congrArg UInt8.toNat e
    rw [UInt8.toNat_ofNat', UInt8.toNat_ofNat'] at this
    omega
  apply BitVec.eq_of_toNat_eq
  have k0 := g _ _ (by omega) (by omega) h0
  have k1 := g _ _ (by omega) (by omega) h1
  have k2 := g _ _ (by omega) (by omega) h2
  have k3 := g _ _ (by omega) (by omega) h3
  omega

end Go.Proofs.YtlobohpbgghleaaGreatDoor

namespace Go.Proofs.YtlobohpbgghleaaGreatDoor

/-! ## numbers in groups of seven bits; frames; headers; manifests: the bytes -/

/-- seven bits at a time, the lowest first -/
def encV (n : Nat) : List UInt8 := if h : n < 128 then [UInt8.ofNat n] else UInt8.ofNat (128 + n % 128) :: encV (n / 128)
termination_by n
decreasing_by omega
theorem encV_low {n : Nat} (h : n < 128) : encV n = [UInt8.ofNat n] := by rw [encV, dif_pos h]
theorem encV_high {n : Nat} (h : ¬ n < 128) : encV n = UInt8.ofNat (128 + n % 128) :: encV (n / 128) := by rw [encV, dif_neg h]
theorem encV_len : ∀ (k n : Nat), n < 128 ^ (k + 1) → (encV n).length ≤ k + 1
  | 0, n, h => by rw [encV_low (by omega)]; simp
  | k + 1, n, h => by
    by_cases hl : n < 128
    · rw [encV_low hl]; simp
    · rw [encV_high hl, List.length_cons]
      have := encV_len k (n / 128) (by rw [Nat.div_lt_iff_lt_mul (by decide)]; rw [Nat.pow_succ] at h; exact h)
      omega
theorem encV_64 {n : Nat} (h : n < 18446744073709551616) : (encV n).length ≤ 10 := encV_len 9 n (Nat.lt_trans h (by decide))
theorem encV_pos (n : Nat) : 0 < (encV n).length := by
  by_cases hl : n < 128
  · rw [encV_low hl]; simp
  · rw [encV_high hl]; simp
/-- how many, then each -/
def encAll (us : List Nat) : List UInt8 := encV us.length ++ us.flatMap encV
theorem encs_snoc (us : List Nat) (u : Nat) : (us ++ [u]).flatMap encV = us.flatMap encV ++ encV u := by simp
theorem encs_len : ∀ (us : List Nat), (∀ u ∈ us, u < 18446744073709551616) → (us.flatMap encV).length ≤ 10 * us.length
  | [], _ => by simp
  | u :: us, h => by
    have h1 := encV_64 (h u (by simp))
    have h2 := encs_len us fun x hx => h x (by simp [hx])
    simp only [List.flatMap_cons, List.length_append, List.length_cons]
    omega
theorem encAll_len (us : List Nat) (h : ∀ u ∈ us, u < 18446744073709551616) (hl : us.length < 18446744073709551616) : (encAll us).length ≤ 10 * us.length + 10 := by
  have h1 := encV_64 hl
  have h2 := encs_len us h
  unfold encAll
  rw [List.length_append]
  omega

/-- eight bytes, the lowest first -/
def le8 (n : Nat) (k : Nat) : List UInt8 := (List.range k).map fun i => UInt8.ofNat (n / 256 ^ i % 256)
theorem le8_succ (n k : Nat) : le8 n (k + 1) = le8 n k ++ [UInt8.ofNat (n / 256 ^ k % 256)] := by simp [le8, List.range_succ]
theorem le8_length (n k : Nat) : (le8 n k).length = k := by simp [le8]
/-- the first twelve bytes of a frame -/
def headOf (kind len seq : Nat) : List UInt8 := [165, UInt8.ofNat kind, UInt8.ofNat (len % 256), UInt8.ofNat (len / 256)] ++ le8 seq 8
theorem headOf_length (kind len seq : Nat) : (headOf kind len seq).length = 12 := by simp [headOf, le8_length]
theorem fourOf_length (s : BitVec 32) : (fourOf s).length = 4 := rfl
def frameOf (kind seq : Nat) (body : List UInt8) : List UInt8 :=
  headOf kind body.length seq ++ fourOf (crcSum (headOf kind body.length seq)) ++ body ++ fourOf (crcSum body)
theorem frameOf_length (kind seq : Nat) (body : List UInt8) : (frameOf kind seq body).length = body.length + 20 := by
  simp only [frameOf, List.length_append, headOf_length, fourOf_length]
  omega
/-- a frame's bytes, and the error -/
def frameEnc (kind seq : Int) (body : List UInt8) : List UInt8 × Int :=
  if decide (kind < 1) || decide (7 < kind) || decide (seq < 0) || decide (1099511627776 < seq) then ([], 63)
  else if decide (16384 < body.length) then ([], 24) else (frameOf kind.toNat seq.toNat body, 0)
/-- a segment's header, and the error -/
def hdrEnc (num first : Int) : List UInt8 × Int :=
  if decide (num < 1) || decide (999999 < num) || decide (first < 1) || decide (1099511627777 < first) then ([], 1)
  else frameEnc 2 num (encV num.toNat ++ encV first.toNat)

structure Sg where
  num : Int
  first : Int
  count : Int
  foot : Int
structure Man where
  gen : Int
  next : Int
  floor : Int
  snap : Int
  snapSeq : Int
  segs : List Sg
/-- each segment begins where the one ahead ends; the last is open -/
def chainOk (nx : Int) : Int → Int → List Sg → Bool
  | _, _, [] => false
  | first, num, g :: r =>
    decide (g.first = first) && decide (num < g.num) && decide (g.num < nx) &&
      (if r.isEmpty then decide (g.count = 0) && decide (g.foot = 0) && decide (first ≤ 1099511627777)
       else decide (1 ≤ g.count) && decide (g.count ≤ 512) && decide (1 ≤ g.foot) && decide (g.foot ≤ 1099511627776) && chainOk nx (first + g.count) g.num r)
def manOk (m : Man) : Bool :=
  decide (1 ≤ m.gen) && decide (m.gen ≤ 1099511627776) && decide (2 ≤ m.next) && decide (m.next ≤ 1000000) && decide (0 ≤ m.snapSeq) && decide (m.snapSeq ≤ 1099511627776) &&
    decide (0 ≤ m.floor) && decide (m.floor ≤ m.snapSeq) && decide (0 ≤ m.snap) && decide (m.snap < m.next) && (decide (m.snap = 0) == decide (m.snapSeq = 0)) && decide (m.segs.length ≤ 256) && chainOk m.next (m.floor + 1) 0 m.segs
/-- what holds of a chain's segments -/
theorem chain_mem (nx : Int) : ∀ (l : List Sg) (first num : Int), chainOk nx first num l = true → 0 ≤ num → 1 ≤ first → ∀ g ∈ l, 1 ≤ g.num ∧ g.num < nx ∧ 1 ≤ g.first ∧ g.first ≤ first + 512 * l.length ∧ 0 ≤ g.count ∧ g.count ≤ 512 ∧ 0 ≤ g.foot ∧ g.foot ≤ 1099511627776
  | [], _, _, h, _, _ => by simp [chainOk] at h
  | g :: r, first, num, h, h0, h1 => by
    simp only [chainOk, Bool.and_eq_true, decide_eq_true_eq] at h
    obtain ⟨⟨⟨a1, a2⟩, a3⟩, a4⟩ := h
    intro x hx
    by_cases hr : r = []
    · subst hr
      simp only [List.isEmpty_nil, if_true, Bool.and_eq_true, decide_eq_true_eq] at a4
      rcases List.mem_cons.1 hx with rfl | hx
      · simp only [List.length_cons, List.length_nil]; omega
      · cases hx
    · rw [if_neg (by cases r <;> simp_all)] at a4
      simp only [Bool.and_eq_true, decide_eq_true_eq] at a4
      obtain ⟨⟨⟨⟨b1, b2⟩, b3⟩, b4⟩, b5⟩ := a4
      rcases List.mem_cons.1 hx with rfl | hx
      · simp only [List.length_cons]; omega
      · have := chain_mem nx r (first + g.count) g.num b5 (by omega) (by omega) x hx
        simp only [List.length_cons]
        omega
/-- the last segment of a chain -/
theorem chain_last (nx : Int) : ∀ (l : List Sg) (first num : Int), chainOk nx first num l = true → ∃ g, l.getLast? = some g ∧ g.count = 0 ∧ g.foot = 0 ∧ g.first ≤ 1099511627777 ∧ g ∈ l
  | [], _, _, h => by simp [chainOk] at h
  | g :: r, first, num, h => by
    simp only [chainOk, Bool.and_eq_true, decide_eq_true_eq] at h
    obtain ⟨⟨⟨a1, a2⟩, a3⟩, a4⟩ := h
    by_cases hr : r = []
    · subst hr
      simp only [List.isEmpty_nil, if_true, Bool.and_eq_true, decide_eq_true_eq] at a4
      exact ⟨g, rfl, a4.1.1, a4.1.2, by omega, by simp⟩
    · rw [if_neg (by cases r <;> simp_all)] at a4
      simp only [Bool.and_eq_true, decide_eq_true_eq] at a4
      obtain ⟨x, h1, h2, h3, h4, h5⟩ := chain_last nx r _ _ a4.2
      exact ⟨x, by rw [List.getLast?_cons, h1]; rfl, h2, h3, h4, by simp [h5]⟩
def sgNums (g : Sg) : List Nat := [g.num.toNat, g.first.toNat, g.count.toNat, g.foot.toNat]
def manNums (m : Man) : List Nat := [m.next.toNat, m.floor.toNat, m.snap.toNat, m.snapSeq.toNat] ++ m.segs.flatMap sgNums
def encMan (m : Man) : List UInt8 × Int := if manOk m then frameEnc 4 m.gen (encAll (manNums m)) else ([], 80)
theorem sgNums_length : ∀ l : List Sg, (l.flatMap sgNums).length = 4 * l.length
  | [] => rfl
  | g :: l => by simp only [List.flatMap_cons, List.length_append, sgNums_length l, List.length_cons, sgNums, List.length_nil]; omega
theorem manNums_length (m : Man) : (manNums m).length = 4 + 4 * m.segs.length := by
  rw [manNums, List.length_append, sgNums_length]; simp
structure ManFine (m : Man) : Prop where
  gen : 1 ≤ m.gen ∧ m.gen ≤ 1099511627776
  next : 2 ≤ m.next ∧ m.next ≤ 1000000
  snapSeq : 0 ≤ m.snapSeq ∧ m.snapSeq ≤ 1099511627776
  floor : 0 ≤ m.floor ∧ m.floor ≤ m.snapSeq
  snap : 0 ≤ m.snap ∧ m.snap < m.next
  len : m.segs.length ≤ 256
  chain : chainOk m.next (m.floor + 1) 0 m.segs = true
  seg : ∀ g ∈ m.segs, 1 ≤ g.num ∧ g.num < m.next ∧ 1 ≤ g.first ∧ g.first ≤ 1099511758849 ∧ 0 ≤ g.count ∧ g.count ≤ 512 ∧ 0 ≤ g.foot ∧ g.foot ≤ 1099511627776
theorem manFine {m : Man} (h : manOk m = true) : ManFine m := by
  simp only [manOk, Bool.and_eq_true, decide_eq_true_eq] at h
  obtain ⟨⟨⟨⟨⟨⟨⟨⟨⟨⟨⟨⟨a, b⟩, c⟩, d⟩, e⟩, f⟩, g⟩, i⟩, j⟩, k⟩, l⟩, n⟩, o⟩ := h
  refine ⟨⟨a, b⟩, ⟨c, d⟩, ⟨e, f⟩, ⟨g, i⟩, ⟨j, k⟩, n, o, fun x hx => ?_⟩
  have := chain_mem m.next m.segs (m.floor + 1) 0 o (by omega) (by omega) x hx
  omega
theorem manNums_lt {m : Man} (h : ManFine m) : ∀ u ∈ manNums m, u < 2199023255552 := by
  intro u hu
  simp only [manNums, List.mem_append, List.mem_cons, List.not_mem_nil, or_false, List.mem_flatMap, sgNums] at hu
  have h1 := h.next
  have h2 := h.snapSeq
  have h3 := h.floor
  have h4 := h.snap
  rcases hu with (rfl | rfl | rfl | rfl) | ⟨g, hg, hu⟩
  · omega
  · omega
  · omega
  · omega
  · have h5 := h.seg g hg
    rcases hu with rfl | rfl | rfl | rfl <;> omega
theorem manBody_len {m : Man} (h : ManFine m) : (encAll (manNums m)).length ≤ 10290 := by
  have h1 := h.len
  have h2 := manNums_length m
  have := encAll_len (manNums m) (fun u hu => Nat.lt_trans (manNums_lt h u hu) (by decide)) (by omega)
  omega
theorem encMan_ok {m : Man} (h : manOk m = true) : encMan m = (frameOf 4 m.gen.toNat (encAll (manNums m)), 0) := by
  have hf := manFine h
  have h1 := hf.gen
  have h2 := manBody_len hf
  rw [encMan, if_pos h, frameEnc, if_neg (by simp; omega), if_neg (by simp; omega)]
  rfl
theorem hdrEnc_ok {num first : Int} (h1 : 1 ≤ num) (h2 : num ≤ 999999) (h3 : 1 ≤ first) (h4 : first ≤ 1099511627777) : hdrEnc num first = (frameOf 2 num.toNat (encV num.toNat ++ encV first.toNat), 0) := by
  have a := encV_64 (show num.toNat < 18446744073709551616 by omega)
  have b := encV_64 (show first.toNat < 18446744073709551616 by omega)
  rw [hdrEnc, if_neg (by simp; omega), frameEnc, if_neg (by simp; omega), if_neg (by simp; omega)]
  rfl

end Go.Proofs.YtlobohpbgghleaaGreatDoor

namespace Go.Proofs.YtlobohpbgghleaaGreatDoor
open Go.RowKit

/-! ## the checksum, walked: the program's by nibbles, the document's bit by bit -/

def nibs : List Int := crcTable.map fun c => (c.toNat : Int)
def NibTab (w : World) : Prop := Lib.TabIs Tryz.prog w "daybook/crc.nibbles" .u32 nibs
theorem NibTab.below {w w' : World} (h : NibTab w) (hb : Below w.heap.size w w') : NibTab w' := Joins.tab_stays (g := 0) (by kernel_rfl) h hb (Nat.le_refl _)
theorem NibTab.at {w : World} (h : NibTab w) (k : Nat) (hk : k < 16) : w.cell? ⟨0, k, none⟩ = some (.int .u32 ((crcTable.getD k 0).toNat : Int)) := by
  have := Lib.TabIs.cell (g := 0) h (by kernel_rfl) k (by simp [nibs, crcTable]; omega)
  rw [this]
  congr 2
  simp only [nibs, List.getD_eq_getElem?_getD, List.getElem?_map]
  rw [List.getElem?_eq_getElem (show k < crcTable.length by simp [crcTable]; omega)]
  rfl
theorem xorNat (a b : BitVec 32) : bits .xor .u32 (a.toNat : Int) (b.toNat : Int) = ((a ^^^ b).toNat : Int) := by
  rw [u32_xor_nat _ _ a.isLt b.isLt, BitVec.toNat_xor]
theorem byteNat (x : UInt8) : (x.toNat : Int) = ((BitVec.ofNat 32 x.toNat).toNat : Int) := by
  have h : x.toNat < 256 := x.toNat_lt
  rw [BitVec.toNat_ofNat, Nat.mod_eq_of_lt (by omega)]
theorem and15 (a : BitVec 32) : bits .and .u32 (a.toNat : Int) 15 = ((a.toNat % 16 : Nat) : Int) := by
  rw [show (15 : Int) = ((15 : Nat) : Int) from rfl, u32_and_nat _ _ a.isLt (by decide)]
  congr 1
  exact Nat.and_two_pow_sub_one_eq_mod a.toNat 4
theorem shr4 (a : BitVec 32) : (a.toNat : Int) / (16 : Int) = ((a >>> 4).toNat : Int) := by
  rw [BitVec.toNat_ushiftRight, Nat.shiftRight_eq_div_pow]
  norm_cast
theorem notNat (a : BitVec 32) : (4294967295 : Int) - (a.toNat : Int) = ((~~~a).toNat : Int) := by
  have := a.isLt
  rw [BitVec.toNat_not]
  omega

set_option maxHeartbeats 1000000 in
theorem crcStep_any (c : BitVec 32) (x : UInt8) (w : World) (ht : NibTab w) :
    Calls Tryz.prog 215 #[.int .u32 (c.toNat : Int), .int .u8 (x.toNat : Int)] w fun e w' => e = .returned (.int .u32 ((crcTake c x).toNat : Int)) ∧ w = w' := by
  obtain ⟨c1, hc1⟩ : ∃ c1, c1 = c ^^^ BitVec.ofNat 32 x.toNat := ⟨_, rfl⟩
  have e1 : bits .xor .u32 (c.toNat : Int) ((x.toNat : Int) % 4294967296) = (c1.toNat : Int) := by
    have h : x.toNat < 256 := x.toNat_lt
    rw [Int.emod_eq_of_lt (by omega) (by omega), byteNat, xorNat, hc1]
  have a1 := and15 c1
  have k1 := ht.at (c1.toNat % 16) (Nat.mod_lt _ (by decide))
  obtain ⟨c2, hc2⟩ : ∃ c2, c2 = crcNib c1 := ⟨_, rfl⟩
  have e2 : bits .xor .u32 ((c1.toNat : Int) / (16 : Int)) ((crcTable.getD (c1.toNat % 16) 0).toNat : Int) = (c2.toNat : Int) := by rw [shr4, xorNat, hc2, crcNib]
  have a2 := and15 c2
  have k2 := ht.at (c2.toNat % 16) (Nat.mod_lt _ (by decide))
  have e3 : bits .xor .u32 ((c2.toNat : Int) / (16 : Int)) ((crcTable.getD (c2.toNat % 16) 0).toNat : Int) = ((crcTake c x).toNat : Int) := by rw [shr4, xorNat, ← crcNib, hc2, hc1, ← crcStep_take, crcStep]
  have b1 : ((c1.toNat % 16 : Nat) : Int) < 16 := by omega
  have b2 : ((c2.toNat % 16 : Nat) : Int) < 16 := by omega
  clear hc1 hc2 ht
  generalize (crcTable.getD (c1.toNat % 16) 0) = t1 at *
  generalize (crcTable.getD (c2.toNat % 16) 0) = t2 at *
  generalize c1.toNat % 16 = n1 at *
  generalize c2.toNat % 16 = n2 at *
  generalize crcTake c x = c3 at *
  go_enter Tryz.func215, Tryz.ntmps215
  go_wp2
  go_ret
  exact ⟨rfl, rfl⟩

/-- the register over a row of bytes -/
theorem crcReg_take (c : BitVec 32) (l : List UInt8) (k : Nat) (x : UInt8) (h : l[k]? = some x) : crcReg c (l.take (k + 1)) = crcTake (crcReg c (l.take k)) x := by
  obtain ⟨h1, h2⟩ := List.getElem?_eq_some_iff.1 h
  rw [List.take_succ_eq_append_getElem h1, h2, crcReg_snoc]
theorem not32 (c : BitVec 32) : bits .xor .u32 IntKind.u32.max (c.toNat : Int) = ((~~~c).toNat : Int) := by
  have h := xorNat (BitVec.allOnes 32) c
  rw [BitVec.allOnes_xor] at h
  exact h

set_option maxHeartbeats 1000000 in
theorem crcUpdate_any (s : BitVec 32) (l : List UInt8) (v : Value) (w : World) (hv : BRow w v l) (ht : NibTab w) (hl : l.length ≤ 9223372036854775807) :
    Calls Tryz.prog 191 #[.int .u32 (s.toNat : Int), v] w fun e w' => e = .returned (.int .u32 ((crcUpdate s l).toNat : Int)) ∧ Below w.heap.size w w' := by
  obtain ⟨oa, cap, rfl, hlc, hc⟩ := hv
  have HC := Lib.hid (show ∀ (i : Nat) x, l[i]? = some x → ∃ b off, oa = some ⟨b, off, none⟩ ∧ w.cell? ⟨b, off + i, none⟩ = some (.int .u8 (x.toNat : Int)) from fun i x hx => by
    obtain ⟨b, off, h1, h2⟩ := hc (by rintro rfl; simp at hx)
    exact ⟨b, off, h1, h2 i x hx⟩)
  obtain ⟨s0, hs0⟩ : ∃ s0, s0 = ~~~s := ⟨_, rfl⟩
  have n1 : bits .xor .u32 IntKind.u32.max (s.toNat : Int) = (s0.toNat : Int) := by rw [not32, hs0]
  have HS0 := Lib.hid hs0
  have HT := Lib.hid ht
  clear hc ht hs0
  go_enter Tryz.func191, Tryz.ntmps191
  go_wp2
  go_loopw [5, 12] (fun cv iv wr => ∃ k : Nat, k ≤ l.length ∧ iv = .int .i64 k ∧ cv = .int .u32 ((crcReg s0 (l.take k)).toNat : Int) ∧ Below w.heap.size w wr) (fun _ iv _ => l.length - (intOf iv).toNat)
  case atStart => exact ⟨0, Nat.zero_le _, rfl, rfl, Below.refl _ _⟩
  case round =>
    obtain ⟨k, hk, rfl, rfl, hb⟩ := hrel
    have HB := Lib.hid hb
    clear hb
    by_cases hlt : k < l.length
    · obtain ⟨x, hx, _, _⟩ := nth l k hlt
      obtain ⟨b, off, rfl, hcell⟩ := HC.out k x hx
      have q1 : (k : Int) < (l.length : Int) := by omega
      have c1 := cell_later HB.out hcell
      have HS := Lib.hid (crcStep_any (crcReg s0 (l.take k)) x wr (HT.out.below HB.out))
      have HX := Lib.hid (crcReg_take s0 l k x hx)
      clear hx hcell n1
      generalize crcReg s0 (l.take k) = r0 at *
      go_wp2_with fail
      go_at_call 215
      refine HS.out.mono ?_
      rintro e w1 ⟨rfl, rfl⟩
      go_wp2
      go_roundw
      case rel => exact ⟨k + 1, by omega, by go_num, by rw [HX.out], HB.out⟩
      case measure => simp [intOf]; omega
    · obtain rfl : k = l.length := by omega
      obtain ⟨r1, hr1⟩ : ∃ r1, r1 = crcUpdate s l := ⟨_, rfl⟩
      have n2 : bits .xor .u32 IntKind.u32.max ((crcReg s0 (l.take l.length)).toNat : Int) = (r1.toNat : Int) := by rw [not32, List.take_length, HS0.out, hr1]; rfl
      have HR := Lib.hid hr1
      clear n1 hr1
      generalize crcReg s0 (l.take l.length) = r0 at *
      go_wp2
      go_ret
      exact ⟨by rw [← HR.out]; rfl, HB.out⟩

theorem crcSum_any (l : List UInt8) (v : Value) (w : World) (hv : BRow w v l) (ht : NibTab w) (hl : l.length ≤ 9223372036854775807) :
    Calls Tryz.prog 150 #[v] w fun e w' => e = .returned (.int .u32 ((crcSum l).toNat : Int)) ∧ Below w.heap.size w w' := by
  have HU := Lib.hid (crcUpdate_any 0 l v w hv ht hl)
  obtain ⟨oa, cap, rfl, hlc, hc⟩ := hv
  clear hc
  go_enter Tryz.func150, Tryz.ntmps150
  go_wp2_with fail
  go_at_call 191
  refine HU.out.mono ?_
  rintro e w1 ⟨rfl, hb⟩
  go_wp2
  go_ret
  exact ⟨rfl, hb⟩

theorem fourCells (s : BitVec 32) : Lib.byteCells (fourOf s) = [.int .u8 ((s.toNat : Int) % 256), .int .u8 ((s.toNat : Int) / 256 % 256), .int .u8 ((s.toNat : Int) / 65536 % 256), .int .u8 ((s.toNat : Int) / 16777216)] := by
  have := s.isLt
  have g : ∀ x : Nat, x < 256 → (((UInt8.ofNat x).toNat : Nat) : Int) = (x : Int) := fun x hx => by rw [UInt8.toNat_ofNat', Nat.mod_eq_of_lt (by omega)]
  simp only [Lib.byteCells, fourOf, List.map_cons, List.map_nil]
  rw [g _ (by omega), g _ (by omega), g _ (by omega), g _ (by omega)]
  have e1 : ((s.toNat % 256 : Nat) : Int) = (s.toNat : Int) % 256 := by omega
  have e2 : ((s.toNat / 256 % 256 : Nat) : Int) = (s.toNat : Int) / 256 % 256 := by omega
  have e3 : ((s.toNat / 65536 % 256 : Nat) : Int) = (s.toNat : Int) / 65536 % 256 := by omega
  have e4 : ((s.toNat / 16777216 : Nat) : Int) = (s.toNat : Int) / 16777216 := by omega
  rw [e1, e2, e3, e4]
theorem own_lit (w : World) (l : List UInt8) (hl : l.length ≤ maxLen) : (w.alloc (.cells (Lib.byteCells l).toArray 5)).ownsRow w.heap.size 5 1 (.slice (some ⟨w.heap.size, 0, none⟩) l.length l.length) l.length (Lib.byteCells l) := by
  have := World.ownsRow_lit (base := w.heap.size) (e := 5) (size := 1) w (Lib.byteCells l).toArray l.length (Nat.le_refl _) hl (by simp [Lib.byteCells])
  simpa using this

set_option maxRecDepth 100000 in
theorem crcFour_any (s : BitVec 32) (w : World) :
    Calls Tryz.prog 149 #[.int .u32 (s.toNat : Int)] w fun e w' => ∃ v, e = .returned v ∧ w'.ownsRow w.heap.size 5 1 v 4 (Lib.byteCells (fourOf s)) ∧ Below w.heap.size w w' := by
  have HO := Lib.hid (own_lit w (fourOf s) (show 4 ≤ maxLen by decide))
  have HC := Lib.hid (fourCells s)
  have hs := s.isLt
  go_enter Tryz.func149, Tryz.ntmps149
  go_wp2
  go_ret
  refine ⟨_, rfl, ?_, below_alloc _ _⟩
  have h := HO.out
  rw [HC.out] at h ⊢
  exact h

theorem bit_odd (r : BitVec 32) (h : r.toNat % 2 = 1) : bits .xor .u32 ((r.toNat : Int) / (2 : Int)) 3988292384 = ((crcBit r).toNat : Int) := by
  have e : (r.toNat : Int) / (2 : Int) = ((r >>> 1).toNat : Int) := by
    rw [BitVec.toNat_ushiftRight, Nat.shiftRight_eq_div_pow]
    norm_cast
  have hb : r.getLsbD 0 = true := by simp [BitVec.getLsbD, Nat.testBit_zero, h]
  rw [e, crcBit, if_pos hb]
  exact xorNat (r >>> 1) crcPoly
theorem bit_even (r : BitVec 32) (h : ¬ r.toNat % 2 = 1) : (r.toNat : Int) / (2 : Int) = ((crcBit r).toNat : Int) := by
  have e : (r.toNat : Int) / (2 : Int) = ((r >>> 1).toNat : Int) := by
    rw [BitVec.toNat_ushiftRight, Nat.shiftRight_eq_div_pow]
    norm_cast
  have hb : r.getLsbD 0 = false := by simp only [BitVec.getLsbD, Nat.testBit_zero]; simpa using h
  rw [e, crcBit, hb]
  rfl

theorem refTake_any (c : BitVec 32) (x : UInt8) (w : World) :
    Calls Tryz.prog 205 #[.int .u32 (c.toNat : Int), .int .u8 (x.toNat : Int)] w fun e w' => e = .returned (.int .u32 ((crcTake c x).toNat : Int)) ∧ w = w' := by
  obtain ⟨c0, hc0⟩ : ∃ c0, c0 = c ^^^ BitVec.ofNat 32 x.toNat := ⟨_, rfl⟩
  have e1 : bits .xor .u32 (c.toNat : Int) ((x.toNat : Int) % 4294967296) = (c0.toNat : Int) := by
    have h : x.toNat < 256 := x.toNat_lt
    rw [Int.emod_eq_of_lt (by omega) (by omega), byteNat, xorNat, hc0]
  have HC0 := Lib.hid hc0
  clear hc0
  go_enter Tryz.func205, Tryz.ntmps205
  go_wp2
  go_loopw [0, 5] (fun cv iv wr => ∃ k : Nat, k ≤ 8 ∧ iv = .int .i64 k ∧ cv = .int .u32 ((crcBits k c0).toNat : Int) ∧ w = wr) (fun _ iv _ => 8 - (intOf iv).toNat)
  case atStart => exact ⟨0, by omega, rfl, rfl, rfl⟩
  case round =>
    obtain ⟨k, hk, rfl, rfl, rfl⟩ := hrel
    by_cases hlt : k < 8
    · have q1 : (k : Int) < 8 := by omega
      have HB := Lib.hid (show crcBits (k + 1) c0 = crcBit (crcBits k c0) by rw [crcBits_add k 1]; rfl)
      clear e1
      generalize crcBits k c0 = r at *
      have hr := r.isLt
      by_cases hp : r.toNat % 2 = 1
      · have t1 : ((r.toNat : Int) % 2 == 1) = true := by simp; omega
        obtain ⟨r', hr'⟩ : ∃ r', r' = crcBits (k + 1) c0 := ⟨_, rfl⟩
        have t2 : bits .xor .u32 ((r.toNat : Int) / (2 : Int)) 3988292384 = (r'.toNat : Int) := by rw [hr', HB.out, bit_odd r hp]
        have HR := Lib.hid hr'
        clear hp HB hr'
        go_wp2
        go_roundw
        case rel => exact ⟨k + 1, by omega, by go_num, by rw [HR.out], trivial⟩
        case measure => simp [intOf]; omega
      · have t1 : ((r.toNat : Int) % 2 == 1) = false := by simp; omega
        have HQ := Lib.hid (bit_even r hp)
        clear hp
        go_wp2
        go_roundw
        case rel => exact ⟨k + 1, by omega, by go_num, by rw [HB.out, ← HQ.out], trivial⟩
        case measure => simp [intOf]; omega
    · obtain rfl : k = 8 := by omega
      have HE := Lib.hid (show crcBits 8 c0 = crcTake c x by rw [HC0.out]; rfl)
      clear e1
      generalize crcBits 8 c0 = r at *
      go_wp2
      go_ret
      exact ⟨by rw [← HE.out]; rfl, rfl⟩

theorem refUpdate_any (s : BitVec 32) (l : List UInt8) (v : Value) (w : World) (hv : BRow w v l) (hl : l.length ≤ 9223372036854775807) :
    Calls Tryz.prog 178 #[.int .u32 (s.toNat : Int), v] w fun e w' => e = .returned (.int .u32 ((crcUpdate s l).toNat : Int)) ∧ Below w.heap.size w w' := by
  obtain ⟨oa, cap, rfl, hlc, hc⟩ := hv
  have HC := Lib.hid (show ∀ (i : Nat) x, l[i]? = some x → ∃ b off, oa = some ⟨b, off, none⟩ ∧ w.cell? ⟨b, off + i, none⟩ = some (.int .u8 (x.toNat : Int)) from fun i x hx => by
    obtain ⟨b, off, h1, h2⟩ := hc (by rintro rfl; simp at hx)
    exact ⟨b, off, h1, h2 i x hx⟩)
  obtain ⟨s0, hs0⟩ : ∃ s0, s0 = ~~~s := ⟨_, rfl⟩
  have HN := Lib.hid (show 4294967295 - (s.toNat : Int) = (s0.toNat : Int) by rw [notNat, ← hs0])
  have hs := s.isLt
  have HS0 := Lib.hid hs0
  clear hc hs0
  go_enter Tryz.func178, Tryz.ntmps178
  go_wp2
  go_loopw [5, 6] (fun cv iv wr => ∃ k : Nat, k ≤ l.length ∧ iv = .int .i64 k ∧ cv = .int .u32 ((crcReg s0 (l.take k)).toNat : Int) ∧ Below w.heap.size w wr) (fun _ iv _ => l.length - (intOf iv).toNat)
  case atStart => exact ⟨0, Nat.zero_le _, rfl, by rw [HN.out]; rfl, Below.refl _ _⟩
  case round =>
    obtain ⟨k, hk, rfl, rfl, hb⟩ := hrel
    have HB := Lib.hid hb
    clear hb
    by_cases hlt : k < l.length
    · obtain ⟨x, hx, _, _⟩ := nth l k hlt
      obtain ⟨b, off, rfl, hcell⟩ := HC.out k x hx
      have q1 : (k : Int) < (l.length : Int) := by omega
      have c1 := cell_later HB.out hcell
      have HS := Lib.hid (refTake_any (crcReg s0 (l.take k)) x wr)
      have HX := Lib.hid (crcReg_take s0 l k x hx)
      clear hx hcell
      generalize crcReg s0 (l.take k) = r0 at *
      go_wp2_with fail
      go_at_call 205
      refine HS.out.mono ?_
      rintro e w1 ⟨rfl, rfl⟩
      go_wp2
      go_roundw
      case rel => exact ⟨k + 1, by omega, by go_num, by rw [HX.out], HB.out⟩
      case measure => simp [intOf]; omega
    · obtain rfl : k = l.length := by omega
      have HE := Lib.hid (show ~~~crcReg s0 (l.take l.length) = crcUpdate s l by rw [List.take_length, HS0.out]; rfl)
      generalize crcReg s0 (l.take l.length) = r0 at *
      have hr0 := r0.isLt
      go_wp2
      go_ret
      exact ⟨by rw [← HE.out, ← notNat]; rfl, HB.out⟩

theorem refSum_any (l : List UInt8) (v : Value) (w : World) (hv : BRow w v l) (hl : l.length ≤ 9223372036854775807) :
    Calls Tryz.prog 135 #[v] w fun e w' => e = .returned (.int .u32 ((crcSum l).toNat : Int)) ∧ Below w.heap.size w w' := by
  have HU := Lib.hid (refUpdate_any 0 l v w hv hl)
  obtain ⟨oa, cap, rfl, hlc, hc⟩ := hv
  clear hc
  go_enter Tryz.func135, Tryz.ntmps135
  go_wp2_with fail
  go_at_call 178
  refine HU.out.mono ?_
  rintro e w1 ⟨rfl, hb⟩
  go_wp2
  go_ret
  exact ⟨rfl, hb⟩

set_option maxRecDepth 100000 in
theorem refFour_any (s : BitVec 32) (w : World) :
    Calls Tryz.prog 134 #[.int .u32 (s.toNat : Int)] w fun e w' => ∃ v, e = .returned v ∧ w'.ownsRow w.heap.size 5 1 v 4 (Lib.byteCells (fourOf s)) ∧ Below w.heap.size w w' := by
  have HO := Lib.hid (own_lit w (fourOf s) (show 4 ≤ maxLen by decide))
  have HC := Lib.hid (fourCells s)
  have hs := s.isLt
  go_enter Tryz.func134, Tryz.ntmps134
  go_wp2
  go_ret
  refine ⟨_, rfl, ?_, below_alloc _ _⟩
  have h := HO.out
  rw [HC.out] at h ⊢
  exact h

end Go.Proofs.YtlobohpbgghleaaGreatDoor

namespace Go.Proofs.YtlobohpbgghleaaGreatDoor
open Go.RowKit

/-! ## numbers in groups of seven bits, walked -/

theorem low7 (n : Nat) : (((UInt8.ofNat (128 + n % 128)).toNat : Nat) : Int) = (n : Int) % 128 + 128 := by
  rw [UInt8.toNat_ofNat', Nat.mod_eq_of_lt (by omega)]; omega
set_option maxRecDepth 100000 in
theorem or128_all : ∀ a : Fin 256, a.val ||| 128 = a.val % 128 + 128 := by decide
theorem or128 (a : Nat) (h : a < 256) : bits .or .u8 (a : Int) 128 = ((a % 128 + 128 : Nat) : Int) := by
  rw [show (128 : Int) = ((128 : Nat) : Int) from rfl, u8_or_nat a 128 h (by decide)]
  exact congrArg _ (or128_all ⟨a, h⟩)
theorem byte7 {n : Nat} (h : n < 128) : (((UInt8.ofNat n).toNat : Nat) : Int) = (n : Int) := by rw [UInt8.toNat_ofNat', Nat.mod_eq_of_lt (by omega)]
theorem make10 (w : World) : (Instr.makeSlice 47 (.int .i64 0) (.int .i64 10)).run Tryz.prog w = .ok (.slice (some ⟨w.heap.size, 0, none⟩) 0 10) (w.alloc (.cells #[.int .u8 0, .int .u8 0, .int .u8 0, .int .u8 0, .int .u8 0, .int .u8 0, .int .u8 0, .int .u8 0, .int .u8 0, .int .u8 0] 5)) := by kernel_rfl
theorem own10 (w : World) : OwnB (w.alloc (.cells #[.int .u8 0, .int .u8 0, .int .u8 0, .int .u8 0, .int .u8 0, .int .u8 0, .int .u8 0, .int .u8 0, .int .u8 0, .int .u8 0] 5)) w.heap.size (.slice (some ⟨w.heap.size, 0, none⟩) 0 10) [] :=
  ⟨rfl, .inr ⟨w.heap.size, 10, _, rfl, Nat.le_refl _, heap_alloc_new w _, by simp, by decide, rfl, by simp [Lib.byteCells]⟩⟩

set_option maxHeartbeats 1000000 in
theorem encode_any (n : Nat) (w : World) (hn : n < 18446744073709551616) :
    Calls Tryz.prog 151 #[.int .u64 (n : Int)] w fun e w' => ∃ v, e = .returned v ∧ OwnB w' w.heap.size v (encV n) ∧ Below w.heap.size w w' := by
  have hmk := make10 w
  have HO := Lib.hid (own10 w)
  go_enter Tryz.func151, Tryz.ntmps151
  go_wp2
  go_loopw [0, 3] (fun uv bv wr => ∃ (m : Nat) (bs : List UInt8), uv = .int .u64 (m : Int) ∧ m < 18446744073709551616 ∧ OwnB wr w.heap.size bv bs ∧ Hid (bs ++ encV m = encV n) ∧ Below w.heap.size w wr) (fun uv _ _ => (intOf uv).toNat)
  case atStart => exact ⟨n, [], rfl, hn, HO.out, Lib.hid rfl, below_alloc _ _⟩
  case round =>
    clear hmk HO
    obtain ⟨m, bs, rfl, hm, hown, HE, hb⟩ := hrel
    have HO := Lib.hid hown
    have HB := Lib.hid hb
    have hsz := hb.size
    have hlen : bs.length ≤ 10 := by
      have := encV_64 hn
      rw [← HE.out, List.length_append] at this
      omega
    clear hown hb
    by_cases hlt : m < 128
    · have t1 : decide ((128 : Int) ≤ (m : Int)) = false := by simp; omega
      have HL := Lib.hid (encV_low hlt)
      have HC := Lib.hid (byte7 hlt)
      go_wp2_with (at_builtin; refine wpList_app1 rfl _ _ rfl (UInt8.ofNat m) rfl rfl HO.out hsz ?c1 ?c2 ?_)
      case c1 => exact HC.out.symm
      case c2 => omega
      intro v' w' h1 h2 _
      have HF := Lib.hid h1
      have HG := Lib.hid (HB.out.trans h2)
      clear h1 h2
      go_wp2
      go_ret
      exact ⟨v', rfl, by have := HF.out; rwa [← HL.out, HE.out] at this, HG.out⟩
    · have t1 : decide ((128 : Int) ≤ (m : Int)) = true := by simp; omega
      have HL := Lib.hid (encV_high hlt)
      obtain ⟨c, hc⟩ : ∃ c, c = UInt8.ofNat (128 + m % 128) := ⟨_, rfl⟩
      have HC := Lib.hid (show bits .or .u8 ((m : Int) % 256) 128 = (c.toNat : Int) by
        rw [hc, low7, show (m : Int) % 256 = ((m % 256 : Nat) : Int) by omega, or128 _ (Nat.mod_lt _ (by decide))]; omega)
      have HX := Lib.hid hc
      clear hc
      go_wp2_with (at_builtin; refine wpList_app1 rfl _ _ rfl c rfl rfl HO.out hsz ?c1 ?c2 ?_)
      case c1 => exact HC.out
      case c2 => omega
      intro v' w' h1 h2 h3
      have HF := Lib.hid h1
      have HG := Lib.hid (HB.out.trans h2)
      clear h1 h2
      go_wp2
      go_roundw
      case rel => exact ⟨m / 128, bs ++ [c], by go_num, by omega, HF.out, Lib.hid (by rw [List.append_assoc, List.singleton_append, HX.out, ← HL.out, HE.out]), HG.out⟩
      case measure => simp [intOf]; omega

/-- a slice of numbers without a sign -/
def URow (w : World) (v : Value) (us : List Nat) : Prop :=
  ∃ oa cap, v = .slice oa us.length cap ∧ us.length ≤ cap ∧ ∀ (i : Nat) u, us[i]? = some u → ∃ b off, oa = some ⟨b, off, none⟩ ∧ w.cell? ⟨b, off + i, none⟩ = some (.int .u64 (u : Int))
theorem URow.below {w w' : World} {v : Value} {us : List Nat} (h : URow w v us) (hb : Below w.heap.size w w') : URow w' v us := by
  obtain ⟨oa, cap, h1, h2, h3⟩ := h
  exact ⟨oa, cap, h1, h2, fun i u hu => by obtain ⟨b, off, e, hc⟩ := h3 i u hu; exact ⟨b, off, e, cell_later hb hc⟩⟩
def encPart (us : List Nat) (k : Nat) : List UInt8 := encV us.length ++ (us.take k).flatMap encV
theorem encPart_zero (us : List Nat) : encPart us 0 = encV us.length := by simp [encPart]
theorem encPart_succ {us : List Nat} {k u : Nat} (h : us[k]? = some u) : encPart us (k + 1) = encPart us k ++ encV u := by
  obtain ⟨h1, h2⟩ := List.getElem?_eq_some_iff.1 h
  unfold encPart
  rw [List.take_succ_eq_append_getElem h1, h2, encs_snoc, List.append_assoc]
theorem encPart_all (us : List Nat) : encPart us us.length = encAll us := by simp [encPart, encAll]
theorem encPart_len (us : List Nat) (k : Nat) (hk : k ≤ us.length) (hu : ∀ u ∈ us, u < 18446744073709551616) (hl : us.length ≤ 1000000000000) : (encPart us k).length ≤ 10 * us.length + 10 := by
  have h1 := encV_64 (show us.length < 18446744073709551616 by omega)
  have h2 := encs_len (us.take k) fun x hx => hu x (List.mem_of_mem_take hx)
  rw [List.length_take] at h2
  unfold encPart
  rw [List.length_append]
  omega

set_option maxHeartbeats 1000000 in
theorem encodeAll_any (us : List Nat) (v : Value) (w : World) (hv : URow w v us) (hu : ∀ u ∈ us, u < 18446744073709551616) (hl : us.length ≤ 1000000000000) :
    Calls Tryz.prog 152 #[v] w fun e w' => ∃ v', e = .returned v' ∧ OwnB w' w.heap.size v' (encAll us) ∧ Below w.heap.size w w' := by
  obtain ⟨oa, cap, rfl, hlc, hc⟩ := hv
  have HC := Lib.hid hc
  have HU := Lib.hid hu
  have HE0 := Lib.hid (encode_any us.length w (by omega))
  clear hc hu
  go_enter Tryz.func152, Tryz.ntmps152
  go_wp2_with fail
  go_at_call 151
  refine HE0.out.mono ?_
  rintro e w0 ⟨v0, rfl, ho0, hb0⟩
  have HO0 := Lib.hid ho0
  have HB0 := Lib.hid hb0
  clear ho0 hb0 HE0
  go_wp2
  go_loopw [3, 12] (fun bv iv wr => ∃ k : Nat, k ≤ us.length ∧ iv = .int .i64 k ∧ OwnB wr w.heap.size bv (encPart us k) ∧ Below w.heap.size w wr) (fun _ iv _ => us.length - (intOf iv).toNat)
  case atStart => exact ⟨0, Nat.zero_le _, rfl, by rw [encPart_zero]; exact HO0.out, HB0.out⟩
  case round =>
    clear HO0 HB0
    obtain ⟨k, hk, rfl, hown, hb⟩ := hrel
    have HO := Lib.hid hown
    have HB := Lib.hid hb
    clear hown hb
    by_cases hlt : k < us.length
    · obtain ⟨u, hx, _, hm⟩ := nth us k hlt
      obtain ⟨b, off, rfl, hcell⟩ := HC.out k u hx
      have q1 : (k : Int) < (us.length : Int) := by omega
      have c1 := cell_later HB.out hcell
      have HS := Lib.hid (encode_any u wr (HU.out u hm))
      have HX := Lib.hid (encPart_succ hx)
      have HL := Lib.hid (encPart_len us (k + 1) (by omega) HU.out hl)
      clear hx hcell hm
      go_wp2_with fail
      go_at_call 151
      refine HS.out.mono ?_
      rintro e w1 ⟨v1, rfl, h1, h2⟩
      have H1 := Lib.hid h1
      have HB1 := Lib.hid (Below.next HB.out h2)
      have HO1 := Lib.hid (HO.out.later h2)
      clear h1 h2 HS HO
      obtain ⟨p, hp⟩ : ∃ p, p = encPart us k := ⟨_, rfl⟩
      obtain ⟨q, hq⟩ : ∃ q, q = encV u := ⟨_, rfl⟩
      have HPQ := Lib.hid (show encPart us (k + 1) = p ++ q by rw [HX.out, hp, hq])
      rw [← hp] at HO1
      rw [← hq] at H1
      have hlen : p.length + q.length ≤ 140737488355328 := by have := HL.out; rw [HPQ.out, List.length_append] at this; omega
      clear HX hp hq
      go_wp2_with (at_builtin; refine wpList_appB rfl _ _ rfl rfl rfl HO1.out ?c1 H1.out.brow hlen ?_)
      case c1 => exact HB1.out.size
      intro v' w' h1 h2
      have HF := Lib.hid h1
      have HG := Lib.hid (HB1.out.trans h2)
      clear h1 h2
      go_wp2
      go_roundw
      case rel => exact ⟨k + 1, by omega, by go_num, by rw [HPQ.out]; exact HF.out, HG.out⟩
      case measure => simp [intOf]; omega
    · obtain rfl : k = us.length := by omega
      have HA := Lib.hid (encPart_all us)
      go_wp2
      go_ret
      exact ⟨_, rfl, by rw [← HA.out]; exact HO.out, HB.out⟩

/-! ## the document's -/

set_option maxRecDepth 100000 in
theorem refEncode_any : ∀ (n : Nat) (w : World), n < 18446744073709551616 →
    Calls Tryz.prog 141 #[.int .u64 (n : Int)] w fun e w' => ∃ v, e = .returned v ∧ OwnB w' w.heap.size v (encV n) ∧ Below w.heap.size w w' := by
  intro n
  induction n using Nat.strongRecOn with
  | _ n ih =>
    intro w hn
    by_cases hlt : n < 128
    · have t1 : decide ((n : Int) < (128 : Int)) = true := by simp; omega
      have HL := Lib.hid (encV_low hlt)
      have HC := Lib.hid (byte7 hlt)
      have HO := Lib.hid (own_lit w [UInt8.ofNat n] (show 1 ≤ maxLen by decide))
      clear ih
      go_enter Tryz.func141, Tryz.ntmps141
      go_wp2
      go_ret
      refine ⟨_, rfl, ?_, below_alloc _ _⟩
      have h := HO.out
      rw [HL.out]
      simp only [Lib.byteCells, List.map_cons, List.map_nil, HC.out] at h
      unfold OwnB
      simp only [Lib.byteCells, List.map_cons, List.map_nil, HC.out]
      exact h
    · have t1 : decide ((n : Int) < (128 : Int)) = false := by simp; omega
      have HL := Lib.hid (encV_high hlt)
      have HC := Lib.hid (low7 n)
      have HIH := Lib.hid (show ∀ W : World, Calls Tryz.prog 141 #[.int .u64 ((n : Int) / 128)] W fun e w' => ∃ v, e = .returned v ∧ OwnB w' W.heap.size v (encV (n / 128)) ∧ Below W.heap.size W w' from fun W => by
        have := ih (n / 128) (by omega) W (by omega)
        rwa [show ((n / 128 : Nat) : Int) = (n : Int) / 128 by omega] at this)
      obtain ⟨c, hc⟩ : ∃ c, c = UInt8.ofNat (128 + n % 128) := ⟨_, rfl⟩
      have HO := Lib.hid (own_lit w [c] (show 1 ≤ maxLen by decide))
      have HO : Hid (OwnB (w.alloc (.cells #[.int .u8 (128 + (n : Int) % 128)] 5)) w.heap.size (.slice (some ⟨w.heap.size, 0, none⟩) 1 1) [c]) := Lib.hid (by
        have h := HO.out
        simp only [Lib.byteCells, List.map_cons, List.map_nil] at h
        rw [show (128 + (n : Int) % 128) = (c.toNat : Int) by rw [hc, low7]; omega]
        exact h)
      have HX := Lib.hid hc
      have H10 := Lib.hid (encV_64 (show n / 128 < 18446744073709551616 by omega))
      clear ih hc
      go_enter Tryz.func141, Tryz.ntmps141
      go_wp2_with fail
      refine (HIH.out _).mono ?_
      rintro e w1 ⟨v1, rfl, h1, h2⟩
      have hb1 := Below.next (below_alloc w (.cells #[.int .u8 (128 + (n : Int) % 128)] 5)) h2
      have HB1 := Lib.hid hb1
      have HO1 := Lib.hid (HO.out.later h2)
      have H1 := Lib.hid h1
      obtain ⟨q, hq⟩ : ∃ q, q = encV (n / 128) := ⟨_, rfl⟩
      rw [← hq] at H1 H10
      have HPQ := Lib.hid (show encV n = [c] ++ q by rw [HL.out, HX.out, hq]; rfl)
      have hlen : [c].length + q.length ≤ 140737488355328 := by have := H10.out; simp; omega
      clear h1 h2 hb1 HIH HO HL HC HX hq H10
      go_wp2_with (at_builtin; refine wpList_appB rfl _ _ rfl rfl rfl HO1.out ?c1 H1.out.brow hlen ?_)
      case c1 => exact HB1.out.size
      intro v' w' h1 h2
      have HF := Lib.hid h1
      have HG := Lib.hid (HB1.out.trans h2)
      clear h1 h2
      go_wp2
      go_ret
      exact ⟨_, rfl, by rw [HPQ.out]; exact HF.out, HG.out⟩

set_option maxHeartbeats 1000000 in
theorem refEncodeAll_any (us : List Nat) (v : Value) (w : World) (hv : URow w v us) (hu : ∀ u ∈ us, u < 18446744073709551616) (hl : us.length ≤ 1000000000000) :
    Calls Tryz.prog 127 #[v] w fun e w' => ∃ v', e = .returned v' ∧ OwnB w' w.heap.size v' (encAll us) ∧ Below w.heap.size w w' := by
  obtain ⟨oa, cap, rfl, hlc, hc⟩ := hv
  have HC := Lib.hid hc
  have HU := Lib.hid hu
  have HE0 := Lib.hid (refEncode_any us.length w (by omega))
  clear hc hu
  go_enter Tryz.func127, Tryz.ntmps127
  go_wp2_with fail
  go_at_call 141
  refine HE0.out.mono ?_
  rintro e w0 ⟨v0, rfl, ho0, hb0⟩
  have HO0 := Lib.hid ho0
  have HB0 := Lib.hid hb0
  clear ho0 hb0 HE0
  go_wp2
  go_loopw [3, 4] (fun bv iv wr => ∃ k : Nat, k ≤ us.length ∧ iv = .int .i64 k ∧ OwnB wr w.heap.size bv (encPart us k) ∧ Below w.heap.size w wr) (fun _ iv _ => us.length - (intOf iv).toNat)
  case atStart => exact ⟨0, Nat.zero_le _, rfl, by rw [encPart_zero]; exact HO0.out, HB0.out⟩
  case round =>
    clear HO0 HB0
    obtain ⟨k, hk, rfl, hown, hb⟩ := hrel
    have HO := Lib.hid hown
    have HB := Lib.hid hb
    clear hown hb
    by_cases hlt : k < us.length
    · obtain ⟨u, hx, _, hm⟩ := nth us k hlt
      obtain ⟨b, off, rfl, hcell⟩ := HC.out k u hx
      have q1 : (k : Int) < (us.length : Int) := by omega
      have c1 := cell_later HB.out hcell
      have HS := Lib.hid (refEncode_any u wr (HU.out u hm))
      have HX := Lib.hid (encPart_succ hx)
      have HL := Lib.hid (encPart_len us (k + 1) (by omega) HU.out hl)
      clear hx hcell hm
      go_wp2_with fail
      go_at_call 141
      refine HS.out.mono ?_
      rintro e w1 ⟨v1, rfl, h1, h2⟩
      have H1 := Lib.hid h1
      have HB1 := Lib.hid (Below.next HB.out h2)
      have HO1 := Lib.hid (HO.out.later h2)
      clear h1 h2 HS HO
      obtain ⟨p, hp⟩ : ∃ p, p = encPart us k := ⟨_, rfl⟩
      obtain ⟨q, hq⟩ : ∃ q, q = encV u := ⟨_, rfl⟩
      have HPQ := Lib.hid (show encPart us (k + 1) = p ++ q by rw [HX.out, hp, hq])
      rw [← hp] at HO1
      rw [← hq] at H1
      have hlen : p.length + q.length ≤ 140737488355328 := by have := HL.out; rw [HPQ.out, List.length_append] at this; omega
      clear HX hp hq
      go_wp2_with (at_builtin; refine wpList_appB rfl _ _ rfl rfl rfl HO1.out ?c1 H1.out.brow hlen ?_)
      case c1 => exact HB1.out.size
      intro v' w' h1 h2
      have HF := Lib.hid h1
      have HG := Lib.hid (HB1.out.trans h2)
      clear h1 h2
      go_wp2
      go_roundw
      case rel => exact ⟨k + 1, by omega, by go_num, by rw [HPQ.out]; exact HF.out, HG.out⟩
      case measure => simp [intOf]; omega
    · obtain rfl : k = us.length := by omega
      have HA := Lib.hid (encPart_all us)
      go_wp2
      go_ret
      exact ⟨_, rfl, by rw [← HA.out]; exact HO.out, HB.out⟩

end Go.Proofs.YtlobohpbgghleaaGreatDoor

namespace Go.Proofs.YtlobohpbgghleaaGreatDoor
open Go.RowKit

/-! ## frames, walked -/

@[reducible] def frV (k s : Int) (bv : Value) : Value := .agg #[.int .i64 k, .int .i64 s, bv]
def frCs (k s : Int) (bv : Value) : Array Value := #[.int .i64 k, .int .i64 s, bv]
theorem le8_byte (n k : Nat) : (((UInt8.ofNat (n / 256 ^ k % 256)).toNat : Nat) : Int) = ((n / 256 ^ k % 256 : Nat) : Int) := by
  rw [UInt8.toNat_ofNat', Nat.mod_eq_of_lt (Nat.mod_lt _ (by decide))]
/-- the first four bytes, and k of the number -/
def headPart (kind len seq k : Nat) : List UInt8 := [165, UInt8.ofNat kind, UInt8.ofNat (len % 256), UInt8.ofNat (len / 256)] ++ le8 seq k
theorem headPart_succ (kind len seq k : Nat) : headPart kind len seq (k + 1) = headPart kind len seq k ++ [UInt8.ofNat (seq / 256 ^ k % 256)] := by
  unfold headPart
  rw [le8_succ, List.append_assoc]
theorem headPart_length (kind len seq k : Nat) : (headPart kind len seq k).length = 4 + k := by simp [headPart, le8_length]; omega
theorem headCells {kind len : Nat} (h1 : kind ≤ 7) (h2 : len ≤ 16384) : Lib.byteCells [165, UInt8.ofNat kind, UInt8.ofNat (len % 256), UInt8.ofNat (len / 256)] = [.int .u8 165, .int .u8 (kind : Int), .int .u8 ((len : Int) % 256), .int .u8 ((len : Int) / 256)] := by
  have g : ∀ x : Nat, x < 256 → (((UInt8.ofNat x).toNat : Nat) : Int) = (x : Int) := fun x hx => by rw [UInt8.toNat_ofNat', Nat.mod_eq_of_lt (by omega)]
  simp only [Lib.byteCells, List.map_cons, List.map_nil]
  rw [g _ (by omega), g _ (by omega), g _ (by omega)]
  have e2 : ((len % 256 : Nat) : Int) = (len : Int) % 256 := by omega
  have e3 : ((len / 256 : Nat) : Int) = (len : Int) / 256 := by omega
  rw [e2, e3]
  rfl
theorem pow_split (s k : Nat) : s / 256 ^ (k + 1) = s / 256 ^ k / 256 := by rw [Nat.pow_succ, Nat.div_div_eq_div_mul]

set_option maxRecDepth 100000 in
set_option maxHeartbeats 1000000 in
theorem refHead_any (kind len seq : Nat) (w : World) (h1 : kind ≤ 7) (h2 : len ≤ 16384) (h3 : seq ≤ 1099511627776) :
    Calls Tryz.prog 177 #[.int .i64 kind, .int .i64 len, .int .i64 seq] w fun e w' => ∃ v, e = .returned v ∧ OwnB w' w.heap.size v (headOf kind len seq ++ fourOf (crcSum (headOf kind len seq))) ∧ Below w.heap.size w w' := by
  have HO := Lib.hid (show OwnB (w.alloc (.cells #[.int .u8 165, .int .u8 (kind : Int), .int .u8 ((len : Int) % 256), .int .u8 ((len : Int) / 256)] 5)) w.heap.size (.slice (some ⟨w.heap.size, 0, none⟩) 4 4) (headPart kind len seq 0) by
    have := own_lit w (headPart kind len seq 0) (by rw [headPart_length]; decide)
    rw [headPart_length] at this
    have e : Lib.byteCells (headPart kind len seq 0) = [.int .u8 165, .int .u8 (kind : Int), .int .u8 ((len : Int) % 256), .int .u8 ((len : Int) / 256)] := by rw [← headCells h1 h2]; simp [headPart, le8]
    unfold OwnB
    rw [headPart_length]
    rw [e] at this ⊢
    exact this)
  go_enter Tryz.func177, Tryz.ntmps177
  go_wp2
  go_loopw [2, 7, 8] (fun sv bv iv wr => ∃ k : Nat, k ≤ 8 ∧ iv = .int .i64 k ∧ sv = .int .i64 ((seq / 256 ^ k : Nat) : Int) ∧ OwnB wr w.heap.size bv (headPart kind len seq k) ∧ Below w.heap.size w wr) (fun _ _ iv _ => 8 - (intOf iv).toNat)
  case atStart => exact ⟨0, by omega, rfl, by simp, HO.out, below_alloc _ _⟩
  case round =>
    clear HO
    obtain ⟨k, hk, rfl, rfl, hown, hb⟩ := hrel
    have HO := Lib.hid hown
    have HB := Lib.hid hb
    have hsz := hb.size
    clear hown hb
    by_cases hlt : k < 8
    · have q1 : (k : Int) < 8 := by omega
      have HX := Lib.hid (headPart_succ kind len seq k)
      have HP := Lib.hid (pow_split seq k)
      have HL := Lib.hid (headPart_length kind len seq k)
      have hle : seq / 256 ^ k ≤ 1099511627776 := Nat.le_trans (Nat.div_le_self _ _) h3
      obtain ⟨s, hs⟩ : ∃ s, s = seq / 256 ^ k := ⟨_, rfl⟩
      rw [← hs] at HX HP hle
      rw [← hs]
      obtain ⟨c, hc⟩ : ∃ c, c = UInt8.ofNat (s % 256) := ⟨_, rfl⟩
      have HC := Lib.hid (show (s : Int) % 256 = (c.toNat : Int) by rw [hc, UInt8.toNat_ofNat', Nat.mod_eq_of_lt (Nat.mod_lt _ (by decide))]; omega)
      rw [← hc] at HX
      obtain ⟨p, hp⟩ : ∃ p, p = headPart kind len seq k := ⟨_, rfl⟩
      rw [← hp] at HX HL HO
      clear hc hs hp
      go_wp2_with (at_builtin; refine wpList_app1 rfl _ _ rfl c rfl rfl HO.out hsz ?c1 ?c2 ?_)
      case c1 => exact HC.out
      case c2 => have := HL.out; omega
      intro v' w' h1 h2 h3
      have HF := Lib.hid h1
      have HG := Lib.hid (HB.out.trans h2)
      clear h1 h2
      go_wp2
      go_roundw
      case rel => exact ⟨k + 1, by omega, by go_num, by rw [HP.out]; go_num, by rw [HX.out]; exact HF.out, HG.out⟩
      case measure => simp [intOf]; omega
    · obtain rfl : k = 8 := by omega
      have HH := Lib.hid (show headPart kind len seq 8 = headOf kind len seq from rfl)
      have HL := Lib.hid (headOf_length kind len seq)
      rw [HH.out] at HO
      obtain ⟨p, hp⟩ : ∃ p, p = headOf kind len seq := ⟨_, rfl⟩
      rw [← hp] at HO HL
      have HS := Lib.hid (refSum_any p _ wr HO.out.brow (by have := HL.out; omega))
      have HPH := Lib.hid hp
      clear hp HH
      obtain ⟨ao, cap, rfl, _, _⟩ := own_shape HO.out
      go_wp2_with fail
      go_at_call 135
      refine HS.out.mono ?_
      rintro e w1 ⟨rfl, hb1⟩
      have HO1 := Lib.hid (HO.out.later hb1)
      have HB1 := Lib.hid (Below.next HB.out hb1)
      clear hb1 HS HO
      have HT := Lib.hid (refFour_any (crcSum p) w1)
      obtain ⟨sm, hsm⟩ : ∃ sm, sm = crcSum p := ⟨_, rfl⟩
      rw [← hsm] at HT ⊢
      have HSM := Lib.hid hsm
      clear hsm
      go_wp2_with fail
      go_at_call 134
      refine HT.out.mono ?_
      rintro e w2 ⟨v2, rfl, h1, hb2⟩
      have HO2 := Lib.hid (HO1.out.later hb2)
      have HB2 := Lib.hid (Below.next HB1.out hb2)
      have HF := Lib.hid (brow_own (l := fourOf sm) h1)
      clear hb2 h1 HT HO1
      have hlen : p.length + (fourOf sm).length ≤ 140737488355328 := by rw [HL.out, fourOf_length]; decide
      obtain ⟨q, hq⟩ : ∃ q, q = fourOf sm := ⟨_, rfl⟩
      rw [← hq] at HF hlen
      have HQ := Lib.hid hq
      clear hq
      go_wp2_with (at_builtin; refine wpList_appB rfl _ _ rfl rfl rfl HO2.out ?c1 HF.out hlen ?_)
      case c1 => exact HB2.out.size
      intro v' w' h1 h2
      have HF' := Lib.hid h1
      have HG := Lib.hid (HB2.out.trans h2)
      clear h1 h2
      go_wp2
      go_ret
      exact ⟨_, rfl, by rw [← HPH.out, ← HSM.out, ← HQ.out]; exact HF'.out, HG.out⟩

/-- a frame's own block -/
def FrBlk (w : World) (g : Nat) (k s : Int) (bv : Value) : Prop := w.heap[g]? = some (.cells (frCs k s bv) 148 (0, 0))
theorem FrBlk.below {w w' : World} {g : Nat} {k s : Int} {bv : Value} (h : FrBlk w g k s bv) (hb : Below w.heap.size w w') : FrBlk w' g k s bv := by
  unfold FrBlk at *
  rw [hb.block g (Array.getElem?_eq_some_iff.1 h).1]; exact h
theorem FrBlk.keep {w w' : World} {g B : Nat} {k s : Int} {bv : Value} (h : FrBlk w g k s bv) (hb : Below B w w') (hB : g < B) : FrBlk w' g k s bv := by
  unfold FrBlk at *
  rw [hb.block g hB]; exact h
theorem FrBlk.c0 {w : World} {g : Nat} {k s : Int} {bv : Value} (h : FrBlk w g k s bv) : w.cell? ⟨g, 0, none⟩ = some (.int .i64 k) := by unfold FrBlk at h; simp [World.cell?, h, frCs]
theorem FrBlk.c1 {w : World} {g : Nat} {k s : Int} {bv : Value} (h : FrBlk w g k s bv) : w.cell? ⟨g, 1, none⟩ = some (.int .i64 s) := by unfold FrBlk at h; simp [World.cell?, h, frCs]
theorem FrBlk.c2 {w : World} {g : Nat} {k s : Int} {bv : Value} (h : FrBlk w g k s bv) : w.cell? ⟨g, 2, none⟩ = some bv := by unfold FrBlk at h; simp [World.cell?, h, frCs]
theorem frBlk_alloc (w : World) (k s : Int) (bv : Value) : FrBlk (w.alloc (.cells (frCs k s bv) 148)) w.heap.size k s bv := heap_alloc_new w _
theorem frameEnc_bad {k s : Int} {body : List UInt8} (h : k < 1 ∨ 7 < k ∨ s < 0 ∨ 1099511627776 < s) : frameEnc k s body = ([], 63) := by
  unfold frameEnc
  rw [if_pos (by simp; omega)]
theorem frameEnc_big {k s : Int} {body : List UInt8} (h : ¬ (k < 1 ∨ 7 < k ∨ s < 0 ∨ 1099511627776 < s)) (hb : 16384 < body.length) : frameEnc k s body = ([], 24) := by
  unfold frameEnc
  rw [if_neg (by simp; omega), if_pos (by simpa using hb)]
theorem frameEnc_ok {k s : Int} {body : List UInt8} (h : ¬ (k < 1 ∨ 7 < k ∨ s < 0 ∨ 1099511627776 < s)) (hb : ¬ 16384 < body.length) : frameEnc k s body = (frameOf k.toNat s.toNat body, 0) := by
  unfold frameEnc
  rw [if_neg (by simp; omega), if_neg (by simpa using hb)]
def FramePost (w : World) (r : List UInt8 × Int) (e : Ending) (w' : World) : Prop := ∃ v, e = .returned (.tuple #[v, .int .i64 r.2]) ∧ OwnB w' w.heap.size v r.1 ∧ Below w.heap.size w w'

set_option maxRecDepth 100000 in
theorem refFrame_bad (k s : Int) (body : List UInt8) (oa : Option Addr) (cap : Nat) (w : World) (h : (k < 1 ∨ 7 < k ∨ s < 0 ∨ 1099511627776 < s) ∨ 16384 < body.length) :
    Calls Tryz.prog 125 #[frV k s (.slice oa body.length cap)] w (FramePost w (frameEnc k s body)) := by
  by_cases h1 : k < 1
  · have HE := Lib.hid (frameEnc_bad (body := body) (.inl h1) (s := s))
    have t1 : decide (k < 1) = true := by simpa using h1
    clear h h1
    go_enter Tryz.func125, Tryz.ntmps125
    go_wp2
    go_ret2
    unfold FramePost; rw [HE.out]
    exact ⟨_, rfl, OwnB.nil _ _, below_alloc _ _⟩
  have t1 : decide (k < 1) = false := by simpa using h1
  by_cases h2 : 7 < k
  · have HE := Lib.hid (frameEnc_bad (body := body) (.inr (.inl h2)) (s := s))
    have t2 : decide (7 < k) = true := by simpa using h2
    clear h h1 h2
    go_enter Tryz.func125, Tryz.ntmps125
    go_wp2
    go_ret2
    unfold FramePost; rw [HE.out]
    exact ⟨_, rfl, OwnB.nil _ _, below_alloc _ _⟩
  have t2 : decide (7 < k) = false := by simpa using h2
  by_cases h3 : s < 0
  · have HE := Lib.hid (frameEnc_bad (body := body) (.inr (.inr (.inl h3))) (k := k))
    have t3 : decide (s < 0) = true := by simpa using h3
    clear h h1 h2 h3
    go_enter Tryz.func125, Tryz.ntmps125
    go_wp2
    go_ret2
    unfold FramePost; rw [HE.out]
    exact ⟨_, rfl, OwnB.nil _ _, below_alloc _ _⟩
  have t3 : decide (s < 0) = false := by simpa using h3
  by_cases h4 : 1099511627776 < s
  · have HE := Lib.hid (frameEnc_bad (body := body) (.inr (.inr (.inr h4))) (k := k))
    have t4 : decide (1099511627776 < s) = true := by simpa using h4
    clear h h1 h2 h3 h4
    go_enter Tryz.func125, Tryz.ntmps125
    go_wp2
    go_ret2
    unfold FramePost; rw [HE.out]
    exact ⟨_, rfl, OwnB.nil _ _, below_alloc _ _⟩
  have t4 : decide (1099511627776 < s) = false := by simpa using h4
  have h5 : 16384 < body.length := by omega
  have HE := Lib.hid (frameEnc_big (k := k) (s := s) (by omega) h5)
  have t5 : decide (16384 < (body.length : Int)) = true := by simp; omega
  clear h h1 h2 h3 h4 h5
  go_enter Tryz.func125, Tryz.ntmps125
  go_wp2
  go_ret2
  unfold FramePost; rw [HE.out]
  exact ⟨_, rfl, OwnB.nil _ _, below_alloc _ _⟩

set_option maxRecDepth 100000 in
set_option maxHeartbeats 1000000 in
theorem refFrame_good (k s : Int) (body : List UInt8) (bv : Value) (w : World) (hv : BRow w bv body) (h : ¬ (k < 1 ∨ 7 < k ∨ s < 0 ∨ 1099511627776 < s)) (h5 : ¬ 16384 < body.length) :
    Calls Tryz.prog 125 #[frV k s bv] w (FramePost w (frameEnc k s body)) := by
  have HE := Lib.hid (frameEnc_ok h h5)
  have t1 : decide (k < 1) = false := by simp; omega
  have t2 : decide (7 < k) = false := by simp; omega
  have t3 : decide (s < 0) = false := by simp; omega
  have t4 : decide (1099511627776 < s) = false := by simp; omega
  have t5 : decide (16384 < (body.length : Int)) = false := by simp; omega
  obtain ⟨kn, rfl⟩ := Int.eq_ofNat_of_zero_le (show 0 ≤ k by omega)
  obtain ⟨sn, rfl⟩ := Int.eq_ofNat_of_zero_le (show 0 ≤ s by omega)
  have HH := Lib.hid (fun W => refHead_any kn body.length sn W (by omega) (by omega) (by omega))
  have HV := Lib.hid hv
  obtain ⟨oa, cap, rfl, _, _⟩ := hv
  have hl : body.length ≤ 16384 := by omega
  have HB0 := Lib.hid (frBlk_alloc w kn sn (.slice oa body.length cap))
  clear h h5
  go_enter Tryz.func125, Tryz.ntmps125
  go_wp2_with fail
  refine wp_region_held_drew (S := fun w' => FrBlk w' w.heap.size kn sn (.slice oa body.length cap) ∧ Below w.heap.size w w') (by kernel_rfl) ⟨HB0.out.below (below_drewN' _ 1), Below.next (below_alloc _ _) (below_drewN' _ 1)⟩ (fun hHeld => ?_)
  refine tk 0 rfl ?v_98 ?hy_98 ?r_98
  case hy_98 => intro w hSw; have k0 := hSw.1.c0; have k1 := hSw.1.c1; have k2 := hSw.1.c2; go_simp; try with_reducible rfl
  simp only [pA, pB, pC, pD]
  refine tk 1 rfl ?v_99 ?hy_99 ?r_99
  case hy_99 => intro w hSw; have k0 := hSw.1.c0; have k1 := hSw.1.c1; have k2 := hSw.1.c2; go_simp; try with_reducible rfl
  simp only [pA, pB, pC, pD]
  refine tk 2 rfl ?v_100 ?hy_100 ?r_100
  case hy_100 => intro w hSw; have k0 := hSw.1.c0; have k1 := hSw.1.c1; have k2 := hSw.1.c2; go_simp; try with_reducible rfl
  simp only [pA, pB, pC, pD]
  refine tk 3 rfl ?v_101 ?hy_101 ?r_101
  case hy_101 => intro w hSw; have k0 := hSw.1.c0; have k1 := hSw.1.c1; have k2 := hSw.1.c2; go_simp; try with_reducible rfl
  simp only [pA, pB, pC, pD]
  refine tk 4 rfl ?v_102 ?hy_102 ?r_102
  case hy_102 => intro w hSw; have k0 := hSw.1.c0; have k1 := hSw.1.c1; have k2 := hSw.1.c2; go_simp; try with_reducible rfl
  simp only [pA, pB, pC, pD]
  refine tk 5 rfl ?v_103 ?hy_103 ?r_103
  case hy_103 => intro w hSw; have k0 := hSw.1.c0; have k1 := hSw.1.c1; have k2 := hSw.1.c2; go_simp; try with_reducible rfl
  simp only [pA, pB, pC, pD]
  refine tk 6 rfl ?v_104 ?hy_104 ?r_104
  case hy_104 => intro w hSw; have k0 := hSw.1.c0; have k1 := hSw.1.c1; have k2 := hSw.1.c2; go_simp; try with_reducible rfl
  simp only [pA, pB, pC, pD]
  refine tk 8 rfl ?v_105 ?hy_105 ?r_105
  case hy_105 => intro w hSw; have k0 := hSw.1.c0; have k1 := hSw.1.c1; have k2 := hSw.1.c2; go_simp; try with_reducible rfl
  simp only [pA, pB, pC, pD]
  refine tk 9 rfl ?v_106 ?hy_106 ?r_106
  case hy_106 => intro w hSw; have k0 := hSw.1.c0; have k1 := hSw.1.c1; have k2 := hSw.1.c2; go_simp; try with_reducible rfl
  simp only [pA, pB, pC, pD]
  refine wpAnyH_ready (rs := [7]) (by kernel_rfl) (by simp) ?_
  refine AllReadyH.cons rfl (fun K hK => ?_) AllReadyH.nil
  go_simp
  go_at_call 177
  refine (HH.out _).mono ?_
  rintro e w1 ⟨v1, rfl, ho, hb⟩
  have HO := Lib.hid (ho.mono (show w.heap.size + 1 ≤ _ by simp))
  have HB := Lib.hid hb
  clear ho hb
  go_wp2_with fail
  refine hK.out _ _ ⟨hHeld.1.below HB.out, Below.next hHeld.2 HB.out⟩ (fun hHeld => ?_)
  clear hK K
  have HV1 := Lib.hid (HV.out.below hHeld.2)
  have HB1 := Lib.hid hHeld.2
  obtain ⟨p, hp⟩ : ∃ p, p = headOf kn body.length sn ++ fourOf (crcSum (headOf kn body.length sn)) := ⟨_, rfl⟩
  rw [← hp] at HO
  have HP := Lib.hid hp
  have HPL := Lib.hid (show p.length = 16 by rw [hp, List.length_append, headOf_length, fourOf_length])
  clear hp HB
  refine wpAnyH_ready (rs := [10]) (by kernel_rfl) (by simp) ?_
  refine AllReadyH.cons rfl (fun K hK => ?_) AllReadyH.nil
  rw [if_pos (by kernel_rfl)]
  have hsz : w.heap.size + 1 ≤ w1.heap.size := by have := (Array.getElem?_eq_some_iff.1 hHeld.1).1; omega
  refine wp_appB (.tmp 34) (.tmp 36) rfl rfl rfl HO.out hsz HV1.out (by have := HPL.out; omega) ?_
  intro v2 w2 ho2 hb2
  have HO2 := Lib.hid ho2
  have HB2 := Lib.hid hb2
  clear ho2 hb2 HO hsz
  refine hK.out _ _ ⟨hHeld.1.keep HB2.out (Nat.lt_succ_self _), hHeld.2.trans (HB2.out.mono (Nat.le_succ _))⟩ (fun hHeld => ?_)
  clear hK K
  refine tk 11 rfl ?v_107 ?hy_107 ?r_107
  case hy_107 => intro w hSw; go_simp; try with_reducible rfl
  simp only [pA]
  refine wpAnyH_done (by kernel_rfl) ?_ _
  have HK2 := Lib.hid hHeld.1
  have HB3 := Lib.hid hHeld.2
  have c2 := hHeld.1.c2
  have HV2 := Lib.hid (HV.out.below HB3.out)
  clear hHeld HB2 HV1 HB1
  have HS := Lib.hid (refSum_any body _ w2 HV2.out (by omega))
  go_wp2_with fail
  go_at_call 135
  refine HS.out.mono ?_
  rintro e w3 ⟨rfl, hb3⟩
  have HO3 := Lib.hid (HO2.out.later hb3)
  have HB4 := Lib.hid (Below.next HB3.out hb3)
  have hsz : w.heap.size + 1 ≤ w3.heap.size := by
    have := (Array.getElem?_eq_some_iff.1 HK2.out).1
    have := hb3.size
    omega
  clear hb3 HS c2
  have HT := Lib.hid (refFour_any (crcSum body) w3)
  obtain ⟨sm, hsm⟩ : ∃ sm, sm = crcSum body := ⟨_, rfl⟩
  rw [← hsm] at HT ⊢
  have HSM := Lib.hid hsm
  clear hsm
  go_wp2_with fail
  go_at_call 134
  refine HT.out.mono ?_
  rintro e w4 ⟨v4, rfl, h1, hb4⟩
  have HO4 := Lib.hid (HO3.out.later hb4)
  have HB5 := Lib.hid (Below.next HB4.out hb4)
  have HF := Lib.hid (brow_own (l := fourOf sm) h1)
  have hsz4 := Nat.le_trans hsz hb4.size
  clear hb4 h1 HT HO3
  obtain ⟨q, hq⟩ : ∃ q, q = fourOf sm := ⟨_, rfl⟩
  obtain ⟨p2, hp2⟩ : ∃ p2, p2 = p ++ body := ⟨_, rfl⟩
  have hlen : p2.length + q.length ≤ 140737488355328 := by rw [hp2, hq, fourOf_length, List.length_append, HPL.out]; omega
  rw [← hq] at HF
  rw [← hp2] at HO4
  have HQ := Lib.hid (show frameOf (kn : Int).toNat (sn : Int).toNat body = p2 ++ q by rw [hq, hp2, HP.out, HSM.out]; rfl)
  clear hq hp2
  go_wp2_with (at_builtin; refine wpList_appB rfl _ _ rfl rfl rfl HO4.out ?c1 HF.out hlen ?_)
  case c1 => exact hsz4
  intro v' w' h1 h2
  have HF' := Lib.hid (h1.mono (Nat.le_succ _))
  have HG := Lib.hid (HB5.out.trans (h2.mono (Nat.le_succ _)))
  clear h1 h2
  go_wp2
  go_ret2
  unfold FramePost
  rw [HE.out, HQ.out]
  exact ⟨_, rfl, HF'.out, HG.out⟩

theorem refFrame_any (k s : Int) (body : List UInt8) (bv : Value) (w : World) (hv : BRow w bv body) : Calls Tryz.prog 125 #[frV k s bv] w (FramePost w (frameEnc k s body)) := by
  by_cases h : (k < 1 ∨ 7 < k ∨ s < 0 ∨ 1099511627776 < s) ∨ 16384 < body.length
  · obtain ⟨oa, cap, rfl, _, _⟩ := hv
    exact refFrame_bad k s body oa cap w h
  · exact refFrame_good k s body bv w hv (fun h' => h (.inl h')) (fun h' => h (.inr h'))

/-! ## the program's -/

set_option maxRecDepth 100000 in
theorem frame_bad (k s : Int) (body : List UInt8) (oa : Option Addr) (cap : Nat) (w : World) (h : (k < 1 ∨ 7 < k ∨ s < 0 ∨ 1099511627776 < s) ∨ 16384 < body.length) :
    Calls Tryz.prog 110 #[frV k s (.slice oa body.length cap)] w (FramePost w (frameEnc k s body)) := by
  by_cases h1 : k < 1
  · have HE := Lib.hid (frameEnc_bad (body := body) (.inl h1) (s := s))
    have t1 : decide (k ≤ 0) = true := by simp; omega
    clear h h1
    go_enter Tryz.func110, Tryz.ntmps110
    go_wp2
    go_ret2
    unfold FramePost; rw [HE.out]
    exact ⟨_, rfl, OwnB.nil _ _, below_alloc _ _⟩
  have t1 : decide (k ≤ 0) = false := by simp; omega
  by_cases h2 : 7 < k
  · have HE := Lib.hid (frameEnc_bad (body := body) (.inr (.inl h2)) (s := s))
    have t2 : decide (7 < k) = true := by simpa using h2
    clear h h1 h2
    go_enter Tryz.func110, Tryz.ntmps110
    go_wp2
    go_ret2
    unfold FramePost; rw [HE.out]
    exact ⟨_, rfl, OwnB.nil _ _, below_alloc _ _⟩
  have t2 : decide (7 < k) = false := by simpa using h2
  by_cases h3 : s < 0
  · have HE := Lib.hid (frameEnc_bad (body := body) (.inr (.inr (.inl h3))) (k := k))
    have t3 : decide (s < 0) = true := by simpa using h3
    clear h h1 h2 h3
    go_enter Tryz.func110, Tryz.ntmps110
    go_wp2
    go_ret2
    unfold FramePost; rw [HE.out]
    exact ⟨_, rfl, OwnB.nil _ _, below_alloc _ _⟩
  have t3 : decide (s < 0) = false := by simpa using h3
  by_cases h4 : 1099511627776 < s
  · have HE := Lib.hid (frameEnc_bad (body := body) (.inr (.inr (.inr h4))) (k := k))
    have t4 : decide (1099511627776 < s) = true := by simpa using h4
    clear h h1 h2 h3 h4
    go_enter Tryz.func110, Tryz.ntmps110
    go_wp2
    go_ret2
    unfold FramePost; rw [HE.out]
    exact ⟨_, rfl, OwnB.nil _ _, below_alloc _ _⟩
  have t4 : decide (1099511627776 < s) = false := by simpa using h4
  have h5 : 16384 < body.length := by omega
  have HE := Lib.hid (frameEnc_big (k := k) (s := s) (by omega) h5)
  have t5 : decide (16384 < (body.length : Int)) = true := by simp; omega
  clear h h1 h2 h3 h4 h5
  go_enter Tryz.func110, Tryz.ntmps110
  go_wp2
  go_ret2
  unfold FramePost; rw [HE.out]
  exact ⟨_, rfl, OwnB.nil _ _, below_alloc _ _⟩

set_option maxRecDepth 100000 in
set_option maxHeartbeats 1000000 in
theorem frame_good (k s : Int) (body : List UInt8) (bv : Value) (w : World) (hv : BRow w bv body) (hn : NibTab w) (h : ¬ (k < 1 ∨ 7 < k ∨ s < 0 ∨ 1099511627776 < s)) (h5 : ¬ 16384 < body.length) :
    Calls Tryz.prog 110 #[frV k s bv] w (FramePost w (frameEnc k s body)) := by
  have HE := Lib.hid (frameEnc_ok h h5)
  have t1 : decide (k ≤ 0) = false := by simp; omega
  have t2 : decide (7 < k) = false := by simp; omega
  have t3 : decide (s < 0) = false := by simp; omega
  have t4 : decide (1099511627776 < s) = false := by simp; omega
  have t5 : decide (16384 < (body.length : Int)) = false := by simp; omega
  obtain ⟨kn, rfl⟩ := Int.eq_ofNat_of_zero_le (show 0 ≤ k by omega)
  obtain ⟨sn, rfl⟩ := Int.eq_ofNat_of_zero_le (show 0 ≤ s by omega)
  have HV := Lib.hid hv
  have HN := Lib.hid hn
  obtain ⟨oa, cap, rfl, _, hcc⟩ := hv
  clear hcc hn
  have hl : body.length ≤ 16384 := by omega
  have hk : kn ≤ 7 := by omega
  have hs : sn ≤ 1099511627776 := by omega
  have t0 : ¬ kn = 0 := by omega
  have HB0 := Lib.hid (frBlk_alloc w kn sn (.slice oa body.length cap))
  have HO := Lib.hid (show ∀ W : World, OwnB (W.alloc (.cells #[.int .u8 165, .int .u8 (kn : Int), .int .u8 ((body.length : Int) % 256), .int .u8 ((body.length : Int) / 256)] 5)) W.heap.size (.slice (some ⟨W.heap.size, 0, none⟩) 4 4) (headPart kn body.length sn 0) by
    intro W
    have := own_lit W (headPart kn body.length sn 0) (by rw [headPart_length]; decide)
    rw [headPart_length] at this
    have e : Lib.byteCells (headPart kn body.length sn 0) = [.int .u8 165, .int .u8 (kn : Int), .int .u8 ((body.length : Int) % 256), .int .u8 ((body.length : Int) / 256)] := by rw [← headCells hk hl]; simp [headPart, le8]
    unfold OwnB
    rw [headPart_length]
    rw [e] at this ⊢
    exact this)
  clear h h5
  go_enter Tryz.func110, Tryz.ntmps110
  go_wp2
  go_loopw [5, 6, 42] (fun bv _ iv wr => ∃ k : Nat, k ≤ 8 ∧ iv = .int .i64 k ∧ OwnB wr (w.heap.size + 1) bv (headPart kn body.length sn k) ∧ FrBlk wr w.heap.size kn sn (.slice oa body.length cap) ∧ Below w.heap.size w wr) (fun _ _ iv _ => 8 - (intOf iv).toNat)
  case atStart => exact ⟨0, by omega, rfl, by have := HO.out (w.alloc (.cells (frCs kn sn (.slice oa body.length cap)) 148)); simp at this; exact this, HB0.out.below (below_alloc _ _), Below.next (below_alloc _ _) (below_alloc _ _)⟩
  case round =>
    clear HO HB0
    obtain ⟨k, hk8, rfl, hown, hfr, hb⟩ := hrel
    have HO := Lib.hid hown
    have HB := Lib.hid hb
    have HF := Lib.hid hfr
    have hsz : w.heap.size + 1 ≤ wr.heap.size := (Array.getElem?_eq_some_iff.1 hfr).1
    clear hown hb hfr
    by_cases hlt : k < 8
    · have c1 := HF.out.c1
      have HX := Lib.hid (headPart_succ kn body.length sn k)
      have HL := Lib.hid (headPart_length kn body.length sn k)
      obtain ⟨c, hc⟩ : ∃ c, c = UInt8.ofNat (sn / 256 ^ k % 256) := ⟨_, rfl⟩
      have HC := Lib.hid (show ((sn / 256 ^ k % 256 : Nat) : Int) = (c.toNat : Int) by rw [hc, le8_byte])
      rw [← hc] at HX
      obtain ⟨p, hp⟩ : ∃ p, p = headPart kn body.length sn k := ⟨_, rfl⟩
      rw [← hp] at HX HL HO
      clear hc hp
      have h8 : k = 0 ∨ k = 1 ∨ k = 2 ∨ k = 3 ∨ k = 4 ∨ k = 5 ∨ k = 6 ∨ k = 7 := by omega
      rcases h8 with rfl | rfl | rfl | rfl | rfl | rfl | rfl | rfl
      all_goals
        go_wp2_with (at_builtin; refine wpList_app1 rfl _ _ rfl c rfl rfl HO.out hsz ?c1 ?c2 ?_)
        case c1 => have := HC.out; simp only [Nat.reducePow, Nat.pow_zero, Nat.div_one] at this; first | exact this | (rw [← this]; omega)
        case c2 => have := HL.out; omega
        intro v' w' h1 h2 h3
        have HF2 := Lib.hid h1
        have HG := Lib.hid (HB.out.trans (h2.mono (Nat.le_succ _)))
        have HF3 := Lib.hid (HF.out.keep h2 (Nat.lt_succ_self _))
        clear h1 h2 c1
        go_wp2
        go_roundw
        case rel => exact ⟨_, by decide, rfl, by rw [HX.out]; exact HF2.out, HF3.out, HG.out⟩
        case measure => simp [intOf]
    · obtain rfl : k = 8 := by omega
      have HH := Lib.hid (show headPart kn body.length sn 8 = headOf kn body.length sn from rfl)
      have HL := Lib.hid (headOf_length kn body.length sn)
      rw [HH.out] at HO
      obtain ⟨p, hp⟩ : ∃ p, p = headOf kn body.length sn := ⟨_, rfl⟩
      rw [← hp] at HO HL
      have HN1 := Lib.hid (HN.out.below HB.out)
      have HS := Lib.hid (crcSum_any p _ wr HO.out.brow HN1.out (by have := HL.out; omega))
      have HPH := Lib.hid hp
      clear hp HH
      obtain ⟨ao, bcap, rfl, _, _⟩ := own_shape HO.out
      go_wp2_with fail
      go_at_call 150
      refine HS.out.mono ?_
      rintro e w1 ⟨rfl, hb1⟩
      have HO1 := Lib.hid (HO.out.later hb1)
      have HB1 := Lib.hid (Below.next HB.out hb1)
      have HF1 := Lib.hid (HF.out.below hb1)
      clear hb1 HS HO
      have HT := Lib.hid (crcFour_any (crcSum p) w1)
      obtain ⟨sm, hsm⟩ : ∃ sm, sm = crcSum p := ⟨_, rfl⟩
      rw [← hsm] at HT ⊢
      have HSM := Lib.hid hsm
      clear hsm
      go_wp2_with fail
      go_at_call 149
      refine HT.out.mono ?_
      rintro e w2 ⟨v2, rfl, h1, hb2⟩
      have HO2 := Lib.hid (HO1.out.later hb2)
      have HB2 := Lib.hid (Below.next HB1.out hb2)
      have HF2 := Lib.hid (HF1.out.below hb2)
      have HQ2 := Lib.hid (brow_own (l := fourOf sm) h1)
      have hsz2 : w.heap.size + 1 ≤ w2.heap.size := (Array.getElem?_eq_some_iff.1 HF2.out).1
      clear hb2 h1 HT HO1 HF1
      obtain ⟨q, hq⟩ : ∃ q, q = fourOf sm := ⟨_, rfl⟩
      have hlen : p.length + q.length ≤ 140737488355328 := by rw [HL.out, hq, fourOf_length]; decide
      have hlq : q.length = 4 := by rw [hq, fourOf_length]
      rw [← hq] at HQ2
      have HPQ := Lib.hid (show p ++ q = headOf kn body.length sn ++ fourOf (crcSum (headOf kn body.length sn)) by rw [hq, HSM.out, HPH.out])
      clear hq
      have c2 := HF2.out.c2
      go_wp2_with (at_builtin; refine wpList_appB rfl _ _ rfl rfl rfl HO2.out ?c1 HQ2.out hlen ?_)
      case c1 => exact hsz2
      intro v3 w3 h1 h2
      have HO3 := Lib.hid h1
      have HB3 := Lib.hid (HB2.out.trans (h2.mono (Nat.le_succ _)))
      have HF3 := Lib.hid (HF2.out.keep h2 (Nat.lt_succ_self _))
      have hsz3 := Nat.le_trans hsz2 h2.size
      have HV3 := Lib.hid (HV.out.below HB3.out)
      clear h1 h2 c2 HF2 HO2
      obtain ⟨p2, hp2⟩ : ∃ p2, p2 = p ++ q := ⟨_, rfl⟩
      have hlen2 : p2.length + body.length ≤ 140737488355328 := by rw [hp2, List.length_append, HL.out, hlq]; omega
      have hl2 : p2.length = 16 := by rw [hp2, List.length_append, HL.out, hlq]
      rw [← hp2] at HO3 HPQ
      clear hp2
      have c3 := HF3.out.c2
      go_wp2_with (at_builtin; refine wpList_appB rfl _ _ rfl rfl rfl HO3.out ?c1 HV3.out hlen2 ?_)
      case c1 => exact hsz3
      intro v4 w4 h1 h2
      have HO4 := Lib.hid h1
      have HB4 := Lib.hid (HB3.out.trans (h2.mono (Nat.le_succ _)))
      have HF4 := Lib.hid (HF3.out.keep h2 (Nat.lt_succ_self _))
      have hsz4 := Nat.le_trans hsz3 h2.size
      have HV4 := Lib.hid (HV.out.below HB4.out)
      have HS4 := Lib.hid (crcSum_any body _ w4 HV4.out (HN.out.below HB4.out) (by omega))
      clear h1 h2 c3 HF3 HO3
      have c4 := HF4.out.c2
      go_wp2_with fail
      go_at_call 150
      refine HS4.out.mono ?_
      rintro e w5 ⟨rfl, hb5⟩
      have HO5 := Lib.hid (HO4.out.later hb5)
      have HB5 := Lib.hid (Below.next HB4.out hb5)
      have hsz5 := Nat.le_trans hsz4 hb5.size
      clear hb5 HS4 c4 HO4
      have HT5 := Lib.hid (crcFour_any (crcSum body) w5)
      obtain ⟨s5, hs5⟩ : ∃ s5, s5 = crcSum body := ⟨_, rfl⟩
      rw [← hs5] at HT5 ⊢
      have HS5 := Lib.hid hs5
      clear hs5
      go_wp2_with fail
      go_at_call 149
      refine HT5.out.mono ?_
      rintro e w6 ⟨v6, rfl, h1, hb6⟩
      have HO6 := Lib.hid (HO5.out.later hb6)
      have HB6 := Lib.hid (Below.next HB5.out hb6)
      have HQ6 := Lib.hid (brow_own (l := fourOf s5) h1)
      have hsz6 := Nat.le_trans hsz5 hb6.size
      clear hb6 h1 HT5 HO5
      obtain ⟨q6, hq6⟩ : ∃ q6, q6 = fourOf s5 := ⟨_, rfl⟩
      obtain ⟨p6, hp6⟩ : ∃ p6, p6 = p2 ++ body := ⟨_, rfl⟩
      have hlen6 : p6.length + q6.length ≤ 140737488355328 := by rw [hp6, hq6, fourOf_length, List.length_append, hl2]; omega
      rw [← hq6] at HQ6
      rw [← hp6] at HO6
      have HQ := Lib.hid (show frameOf (kn : Int).toNat (sn : Int).toNat body = p6 ++ q6 by rw [hq6, hp6, HPQ.out, HS5.out]; rfl)
      clear hq6 hp6
      go_wp2_with (at_builtin; refine wpList_appB rfl _ _ rfl rfl rfl HO6.out ?c1 HQ6.out hlen6 ?_)
      case c1 => exact hsz6
      intro v' w' h1 h2
      have HF' := Lib.hid (h1.mono (Nat.le_succ _))
      have HG := Lib.hid (HB6.out.trans (h2.mono (Nat.le_succ _)))
      clear h1 h2
      go_wp2
      go_ret2
      unfold FramePost
      rw [HE.out, HQ.out]
      exact ⟨_, rfl, HF'.out, HG.out⟩
theorem frame_any (k s : Int) (body : List UInt8) (bv : Value) (w : World) (hv : BRow w bv body) (hn : NibTab w) : Calls Tryz.prog 110 #[frV k s bv] w (FramePost w (frameEnc k s body)) := by
  by_cases h : (k < 1 ∨ 7 < k ∨ s < 0 ∨ 1099511627776 < s) ∨ 16384 < body.length
  · obtain ⟨oa, cap, rfl, _, _⟩ := hv
    exact frame_bad k s body oa cap w h
  · exact frame_good k s body bv w hv hn (fun h' => h (.inl h')) (fun h' => h (.inr h'))

end Go.Proofs.YtlobohpbgghleaaGreatDoor

namespace Go.Proofs.YtlobohpbgghleaaGreatDoor
open Go.RowKit

/-! ## a segment's header, walked -/

theorem refTwo_any (a b : Nat) (w : World) (ha : a < 9223372036854775808) (hb : b < 9223372036854775808) :
    Calls Tryz.prog 126 #[.int .i64 a, .int .i64 b] w fun e w' => ∃ v, e = .returned v ∧ OwnB w' w.heap.size v (encV a ++ encV b) ∧ Below w.heap.size w w' := by
  have HE := Lib.hid (fun W => refEncode_any a W (by omega))
  have HF := Lib.hid (fun W => refEncode_any b W (by omega))
  have HLa := Lib.hid (encV_64 (show a < 18446744073709551616 by omega))
  have HLb := Lib.hid (encV_64 (show b < 18446744073709551616 by omega))
  go_enter Tryz.func126, Tryz.ntmps126
  go_wp2_with fail
  go_at_call 141
  refine (HE.out _).mono ?_
  rintro e w1 ⟨v1, rfl, h1, hb1⟩
  have HO1 := Lib.hid h1
  have HB1 := Lib.hid hb1
  clear h1 hb1
  go_wp2_with fail
  go_at_call 141
  refine (HF.out _).mono ?_
  rintro e w2 ⟨v2, rfl, h2, hb2⟩
  have HO2 := Lib.hid (HO1.out.later hb2)
  have HB2 := Lib.hid (Below.next HB1.out hb2)
  have H2 := Lib.hid h2.brow
  clear h2 hb2 HO1 HB1 HE HF
  obtain ⟨p, hp⟩ : ∃ p, p = encV a := ⟨_, rfl⟩
  obtain ⟨q, hq⟩ : ∃ q, q = encV b := ⟨_, rfl⟩
  rw [← hp] at HO2 HLa
  rw [← hq] at H2 HLb
  have HP := Lib.hid hp
  have HQ := Lib.hid hq
  have hlen : p.length + q.length ≤ 140737488355328 := by have := HLa.out; have := HLb.out; omega
  clear hp hq
  go_wp2_with (at_builtin; refine wpList_appB rfl _ _ rfl rfl rfl HO2.out ?c1 H2.out hlen ?_)
  case c1 => exact HB2.out.size
  intro v' w' h1 h2
  have HF' := Lib.hid h1
  have HG := Lib.hid (HB2.out.trans h2)
  clear h1 h2
  go_wp2
  go_ret
  exact ⟨_, rfl, by rw [← HP.out, ← HQ.out]; exact HF'.out, HG.out⟩

set_option maxRecDepth 100000 in
/-- numbers in a slice: two of them -/
theorem nums_two (a b : Nat) (g : Nat) (w : World) (ha : a < 9223372036854775808) (hb : b < 9223372036854775808) (h0 : w.cell? ⟨g, 0, none⟩ = some (.int .i64 a)) (h1 : w.cell? ⟨g, 1, none⟩ = some (.int .i64 b)) :
    Calls Tryz.prog 111 #[.slice (some ⟨g, 0, none⟩) 2 2] w fun e w' => ∃ v, e = .returned v ∧ OwnB w' w.heap.size v (encV a ++ encV b) ∧ Below w.heap.size w w' := by
  have HE := Lib.hid (fun W => encode_any a W (by omega))
  have HF := Lib.hid (fun W => encode_any b W (by omega))
  have HLa := Lib.hid (encV_64 (show a < 18446744073709551616 by omega))
  have HLb := Lib.hid (encV_64 (show b < 18446744073709551616 by omega))
  have H1 := Lib.hid h1
  clear h1
  go_enter Tryz.func111, Tryz.ntmps111
  go_wp2
  refine wp_loop_rounds 3 ?_
  rw [rounds_succ]
  go_wp2_with fail
  refine (HE.out _).mono ?_
  rintro e w1 ⟨v1, rfl, h2, hb1⟩
  have HO0 := Lib.hid (OwnB.nil w1 w.heap.size)
  have HB1 := Lib.hid hb1
  have H2 := Lib.hid h2.brow
  clear h2 hb1 HE h0
  obtain ⟨p, hp⟩ : ∃ p, p = encV a := ⟨_, rfl⟩
  rw [← hp] at H2 HLa
  have HP := Lib.hid hp
  have hlen : ([] : List UInt8).length + p.length ≤ 140737488355328 := by have := HLa.out; simp; omega
  clear hp
  go_wp2_with (at_builtin; refine wpList_appB rfl _ _ rfl rfl rfl HO0.out ?c1 H2.out hlen ?_)
  case c1 => exact HB1.out.size
  intro v2 w2 h3 h4
  have HO2 := Lib.hid (show OwnB w2 w.heap.size v2 p from h3)
  have HB2 := Lib.hid (HB1.out.trans h4)
  have c1 := cell_later HB2.out H1.out
  clear h3 h4 HO0 HB1 H2 hlen H1
  go_wp2
  rw [rounds_succ]
  go_wp2_with fail
  refine (HF.out _).mono ?_
  rintro e w3 ⟨v3, rfl, h5, hb3⟩
  have HO3 := Lib.hid (HO2.out.later hb3)
  have HB3 := Lib.hid (Below.next HB2.out hb3)
  have H5 := Lib.hid h5.brow
  clear h5 hb3 HO2 HB2 HF c1
  obtain ⟨q, hq⟩ : ∃ q, q = encV b := ⟨_, rfl⟩
  rw [← hq] at H5 HLb
  have HQ := Lib.hid hq
  have hlen : p.length + q.length ≤ 140737488355328 := by have := HLa.out; have := HLb.out; omega
  clear hq
  go_wp2_with (at_builtin; refine wpList_appB rfl _ _ rfl rfl rfl HO3.out ?c1 H5.out hlen ?_)
  case c1 => exact HB3.out.size
  intro v' w' h1 h2
  have HF' := Lib.hid h1
  have HG := Lib.hid (HB3.out.trans h2)
  clear h1 h2
  go_wp2
  rw [rounds_succ]
  go_wp2
  go_ret
  exact ⟨_, rfl, by rw [← HP.out, ← HQ.out]; exact HF'.out, HG.out⟩

theorem right_any (num first : Int) (w : World) : Calls Tryz.prog 109 #[.int .i64 num, .int .i64 first] w fun e w' => e = .returned (.bool (decide (1 ≤ num) && decide (num ≤ 999999) && decide (1 ≤ first) && decide (first ≤ 1099511627777))) ∧ w = w' := by
  rcases h1 : decide (1 ≤ num)
  · go_enter Tryz.func109, Tryz.ntmps109
    go_wp2
    go_ret
    exact ⟨rfl, rfl⟩
  rcases h2 : decide (num ≤ 999999)
  · go_enter Tryz.func109, Tryz.ntmps109
    go_wp2
    go_ret
    exact ⟨rfl, rfl⟩
  rcases h3 : decide (1 ≤ first)
  · go_enter Tryz.func109, Tryz.ntmps109
    go_wp2
    go_ret
    exact ⟨rfl, rfl⟩
  rcases h4 : decide (first ≤ 1099511627777)
  all_goals
    go_enter Tryz.func109, Tryz.ntmps109
    go_wp2
    go_ret
    exact ⟨rfl, rfl⟩

theorem hdrEnc_bad {num first : Int} (h : num < 1 ∨ 999999 < num ∨ first < 1 ∨ 1099511627777 < first) : hdrEnc num first = ([], 1) := by
  unfold hdrEnc
  rw [if_pos (by simp; omega)]
theorem hdrEnc_good {num first : Int} (h : ¬ (num < 1 ∨ 999999 < num ∨ first < 1 ∨ 1099511627777 < first)) : hdrEnc num first = frameEnc 2 num (encV num.toNat ++ encV first.toNat) := by
  unfold hdrEnc
  rw [if_neg (by simp; omega)]

set_option maxRecDepth 100000 in
theorem header_any (num first : Int) (w : World) (hn : NibTab w) : Calls Tryz.prog 75 #[.int .i64 num, .int .i64 first] w (FramePost w (hdrEnc num first)) := by
  by_cases h : num < 1 ∨ 999999 < num ∨ first < 1 ∨ 1099511627777 < first
  · have HE := Lib.hid (hdrEnc_bad h)
    have HR := Lib.hid (right_any num first w)
    have HT := Lib.hid (show (decide (1 ≤ num) && decide (num ≤ 999999) && decide (1 ≤ first) && decide (first ≤ 1099511627777)) = false by simp; omega)
    clear h
    go_enter Tryz.func75, Tryz.ntmps75
    go_wp2_with fail
    go_at_call 109
    refine HR.out.mono ?_
    rw [HT.out]
    rintro e w1 ⟨rfl, rfl⟩
    go_wp2
    go_ret2
    unfold FramePost; rw [HE.out]
    exact ⟨_, rfl, OwnB.nil _ _, Below.refl _ _⟩
  · have HE := Lib.hid (hdrEnc_good h)
    have HR := Lib.hid (right_any num first w)
    have HT := Lib.hid (show (decide (1 ≤ num) && decide (num ≤ 999999) && decide (1 ≤ first) && decide (first ≤ 1099511627777)) = true by simp; omega)
    obtain ⟨nn, rfl⟩ := Int.eq_ofNat_of_zero_le (show 0 ≤ num by omega)
    obtain ⟨fn, rfl⟩ := Int.eq_ofNat_of_zero_le (show 0 ≤ first by omega)
    have HN := Lib.hid hn
    have HW := Lib.hid (nums_two nn fn w.heap.size (w.alloc (.cells #[.int .i64 nn, .int .i64 fn] 3)) (by omega) (by omega) (by simp [World.cell?_alloc_new]) (by simp [World.cell?_alloc_new]))
    clear h hn
    go_enter Tryz.func75, Tryz.ntmps75
    go_wp2_with fail
    go_at_call 109
    refine HR.out.mono ?_
    rw [HT.out]
    rintro e w1 ⟨rfl, rfl⟩
    go_wp2_with fail
    refine HW.out.mono ?_
    rintro e w1 ⟨v1, rfl, h1, hb1⟩
    obtain ⟨bd, hbd⟩ : ∃ bd, bd = encV nn ++ encV fn := ⟨_, rfl⟩
    rw [← hbd] at h1
    have HBD := Lib.hid hbd
    have HO1 := Lib.hid h1.brow
    have hsh := h1.brow
    obtain ⟨oa1, cap1, rfl, _, hsh2⟩ := hsh
    have HB1 := Lib.hid (Below.next (below_alloc w _) hb1)
    clear h1 hb1 HW hsh2 hbd
    have HFr := Lib.hid (frame_any 2 nn _ _ w1 HO1.out (HN.out.below HB1.out))
    go_wp2_with fail
    go_at_call 110
    refine HFr.out.mono ?_
    rintro e w2 ⟨v2, rfl, h2, hb2⟩
    obtain ⟨r, hr⟩ : ∃ r, r = frameEnc 2 (nn : Int) bd := ⟨_, rfl⟩
    rw [← hr] at h2
    rw [← hr]
    have HRR := Lib.hid hr
    have HO2 := Lib.hid (h2.mono HB1.out.size)
    have HB2 := Lib.hid (Below.next HB1.out hb2)
    clear h2 hb2 HFr hr
    go_wp2
    go_ret2
    unfold FramePost; rw [HE.out]
    have e : frameEnc 2 (nn : Int) (encV (nn : Int).toNat ++ encV (fn : Int).toNat) = r := by rw [HRR.out, HBD.out]; rfl
    rw [e]
    exact ⟨_, rfl, HO2.out, HB2.out⟩

set_option maxRecDepth 100000 in
theorem refHeader_any (num first : Int) (w : World) : Calls Tryz.prog 87 #[.int .i64 num, .int .i64 first] w (FramePost w (hdrEnc num first)) := by
  by_cases h : num < 1 ∨ 999999 < num ∨ first < 1 ∨ 1099511627777 < first
  · have HE := Lib.hid (hdrEnc_bad h)
    rcases h1 : decide (num < 1)
    · rcases h2 : decide (999999 < num)
      · rcases h3 : decide (first < 1)
        · have h4 : decide (1099511627777 < first) = true := by simp at h1 h2 h3 ⊢; omega
          clear h
          go_enter Tryz.func87, Tryz.ntmps87
          go_wp2
          go_ret2
          unfold FramePost; rw [HE.out]
          exact ⟨_, rfl, OwnB.nil _ _, Below.refl _ _⟩
        · clear h
          go_enter Tryz.func87, Tryz.ntmps87
          go_wp2
          go_ret2
          unfold FramePost; rw [HE.out]
          exact ⟨_, rfl, OwnB.nil _ _, Below.refl _ _⟩
      · clear h
        go_enter Tryz.func87, Tryz.ntmps87
        go_wp2
        go_ret2
        unfold FramePost; rw [HE.out]
        exact ⟨_, rfl, OwnB.nil _ _, Below.refl _ _⟩
    · clear h
      go_enter Tryz.func87, Tryz.ntmps87
      go_wp2
      go_ret2
      unfold FramePost; rw [HE.out]
      exact ⟨_, rfl, OwnB.nil _ _, Below.refl _ _⟩
  · have HE := Lib.hid (hdrEnc_good h)
    have t1 : decide (num < 1) = false := by simp; omega
    have t2 : decide (999999 < num) = false := by simp; omega
    have t3 : decide (first < 1) = false := by simp; omega
    have t4 : decide (1099511627777 < first) = false := by simp; omega
    obtain ⟨nn, rfl⟩ := Int.eq_ofNat_of_zero_le (show 0 ≤ num by omega)
    obtain ⟨fn, rfl⟩ := Int.eq_ofNat_of_zero_le (show 0 ≤ first by omega)
    have HW := Lib.hid (refTwo_any nn fn w (by omega) (by omega))
    clear h
    go_enter Tryz.func87, Tryz.ntmps87
    go_wp2_with fail
    go_at_call 126
    refine HW.out.mono ?_
    rintro e w1 ⟨v1, rfl, h1, hb1⟩
    obtain ⟨bd, hbd⟩ : ∃ bd, bd = encV nn ++ encV fn := ⟨_, rfl⟩
    rw [← hbd] at h1
    have HBD := Lib.hid hbd
    have HO1 := Lib.hid h1.brow
    have hsh := h1.brow
    obtain ⟨oa1, cap1, rfl, _, hsh2⟩ := hsh
    have HB1 := Lib.hid hb1
    clear h1 hb1 HW hsh2 hbd
    have HFr := Lib.hid (refFrame_any 2 nn _ _ w1 HO1.out)
    go_wp2_with fail
    go_at_call 125
    refine HFr.out.mono ?_
    rintro e w2 ⟨v2, rfl, h2, hb2⟩
    obtain ⟨r, hr⟩ : ∃ r, r = frameEnc 2 (nn : Int) bd := ⟨_, rfl⟩
    rw [← hr] at h2
    rw [← hr]
    have HRR := Lib.hid hr
    have HO2 := Lib.hid (h2.mono HB1.out.size)
    have HB2 := Lib.hid (Below.next HB1.out hb2)
    clear h2 hb2 HFr hr
    go_wp2
    go_ret2
    unfold FramePost; rw [HE.out]
    have e : frameEnc 2 (nn : Int) (encV (nn : Int).toNat ++ encV (fn : Int).toNat) = r := by rw [HRR.out, HBD.out]; rfl
    rw [e]
    exact ⟨_, rfl, HO2.out, HB2.out⟩

end Go.Proofs.YtlobohpbgghleaaGreatDoor
