import Derived.Test.YtlobohpbgghleaaDoorNumPlain
namespace Go.Proofs.YtlobohpbgghleaaDoor

/-! ## events -/

/-- an event -/
structure Ev where
  kind : Int
  order : Int
  item : Int
  qty : Int
  price : Int
  cur : Int
  tax : Int
  who : List UInt8
  stamp : Int
  note : List UInt8

def evNone : Ev := ⟨0, 0, 0, 0, 0, 0, 0, [], 0, []⟩

theorem Ev.ext' {a b : Ev} (h0 : a.kind = b.kind) (h1 : a.order = b.order) (h2 : a.item = b.item) (h3 : a.qty = b.qty) (h4 : a.price = b.price) (h5 : a.cur = b.cur) (h6 : a.tax = b.tax)
    (h7 : a.who = b.who) (h8 : a.stamp = b.stamp) (h9 : a.note = b.note) : a = b := by
  cases a; cases b; simp at *; exact ⟨h0, h1, h2, h3, h4, h5, h6, h7, h8, h9⟩

def plainC (c : UInt8) : Bool := c.toNat == 45 || (decide (48 ≤ c.toNat) && decide (c.toNat ≤ 57)) || (decide (97 ≤ c.toNat) && decide (c.toNat ≤ 122))
def plainS (s : List UInt8) : Bool := s.all plainC

def lastKind (v : Int) : Int := if v < 3 then 5 else if v = 3 then 7 else if v = 4 then 9 else 10
def btw (x lo hi : Int) : Bool := decide (lo ≤ x) && decide (x ≤ hi)
/-- all fields within the bounds of the version -/
def evFits (v : Int) (e : Ev) : Bool :=
  btw e.order 1 1099511627776 && btw e.item 0 65535 && btw e.qty (if v < 3 then -10000 else 0) 10000 && btw e.price 0 (if v = 1 then 1000000 else 100000000) &&
  btw e.cur 0 (if v < 2 then 0 else 3) && btw e.tax 0 (if v < 3 then 0 else 5000) && (if v < 4 then e.who.isEmpty else plainS e.who) && btw e.stamp 0 (if v < 5 then 0 else 1099511627776) && (decide (5 ≤ v) || e.note.isEmpty)

/-- what is wrong with an event of that version: a number, 0 for nothing -/
def evCheck (v : Int) (e : Ev) : Int :=
  if v < 1 ∨ 5 < v then 30
  else if e.kind < 1 ∨ lastKind v < e.kind then 31
  else if 16 < e.who.length ∨ 120 < e.note.length then 24
  else if evFits v e = true then 0 else 32

/-! ## pieces -/

def cutAt (c : UInt8) : List UInt8 → Option (List UInt8 × List UInt8)
  | [] => none
  | x :: l => if x = c then some ([], l) else (cutAt c l).map fun p => (x :: p.1, p.2)
def splitOn (c : UInt8) : List UInt8 → List (List UInt8)
  | [] => [[]]
  | x :: l => if x = c then [] :: splitOn c l else match splitOn c l with | [] => [[x]] | w :: ws => (x :: w) :: ws

theorem splitOn_ne (c : UInt8) (s : List UInt8) : splitOn c s ≠ [] := by
  cases s with
  | nil => simp [splitOn]
  | cons x l => rw [splitOn]; split; · simp
                split <;> simp

theorem splitOn_cons_ne {c x : UInt8} (h : x ≠ c) (l : List UInt8) : ∃ w ws, splitOn c l = w :: ws ∧ splitOn c (x :: l) = (x :: w) :: ws := by
  cases hs : splitOn c l with
  | nil => exact absurd hs (splitOn_ne c l)
  | cons w ws => exact ⟨w, ws, rfl, by rw [splitOn, if_neg h, hs]⟩

theorem cutAt_some {c : UInt8} : ∀ {s a b : List UInt8}, cutAt c s = some (a, b) → s = a ++ c :: b ∧ c ∉ a
  | [], a, b, h => by simp [cutAt] at h
  | x :: l, a, b, h => by
    rw [cutAt] at h
    split at h
    · rename_i hx
      simp at h
      obtain ⟨rfl, rfl⟩ := h
      simp [hx]
    · rename_i hx
      cases hc : cutAt c l with
      | none => rw [hc] at h; simp at h
      | some p =>
        obtain ⟨a', b'⟩ := p
        rw [hc] at h
        simp at h
        obtain ⟨rfl, rfl⟩ := h
        obtain ⟨h1, h2⟩ := cutAt_some hc
        refine ⟨by rw [h1]; rfl, ?_⟩
        rw [List.mem_cons]
        rintro (h | h)
        · exact hx h.symm
        · exact h2 h
theorem cutAt_mk {c : UInt8} : ∀ (a b : List UInt8), c ∉ a → cutAt c (a ++ c :: b) = some (a, b)
  | [], b, _ => by simp [cutAt]
  | x :: a, b, h => by
    rw [List.mem_cons] at h
    rw [List.cons_append, cutAt, if_neg (fun e => h (.inl e.symm)), cutAt_mk a b (fun e => h (.inr e))]; rfl
theorem cutAt_none {c : UInt8} : ∀ {s : List UInt8}, cutAt c s = none ↔ c ∉ s
  | [] => by simp [cutAt]
  | x :: l => by
    rw [cutAt, List.mem_cons]
    split
    · rename_i h; simp [h]
    · rename_i h
      rw [Option.map_eq_none_iff, cutAt_none]
      constructor
      · rintro h1 (e | e)
        · exact h e.symm
        · exact h1 e
      · exact fun h1 e => h1 (.inr e)

/-- the pieces by cutting -/
theorem splitOn_cut (c : UInt8) : ∀ s : List UInt8, splitOn c s = match cutAt c s with | none => [s] | some (a, b) => a :: splitOn c b
  | [] => rfl
  | x :: l => by
    rw [splitOn, cutAt]
    split
    · rfl
    · rw [splitOn_cut c l]
      cases cutAt c l with
      | none => rfl
      | some p => rfl
theorem splitOn_mk {c : UInt8} (a b : List UInt8) (h : c ∉ a) : splitOn c (a ++ c :: b) = a :: splitOn c b := by rw [splitOn_cut, cutAt_mk a b h]
theorem splitOn_one {c : UInt8} (a : List UInt8) (h : c ∉ a) : splitOn c a = [a] := by rw [splitOn_cut, cutAt_none.2 h]

/-- joined again -/
def joinBy (c : UInt8) : List (List UInt8) → List UInt8
  | [] => []
  | [w] => w
  | w :: v :: ws => w ++ c :: joinBy c (v :: ws)
theorem join_split (c : UInt8) (s : List UInt8) : joinBy c (splitOn c s) = s := by
  induction s with
  | nil => rfl
  | cons x l ih =>
    by_cases h : x = c
    · rw [splitOn, if_pos h]
      cases hs : splitOn c l with
      | nil => exact absurd hs (splitOn_ne c l)
      | cons w ws => rw [joinBy, ← hs, ih, h]; rfl
    · obtain ⟨w, ws, e1, e2⟩ := splitOn_cons_ne h l
      rw [e2]
      rw [e1] at ih
      cases ws with
      | nil => rw [joinBy] at ih ⊢; rw [ih]
      | cons v ws => rw [joinBy] at ih ⊢; rw [← ih]; rfl
theorem splitOn_mem {c : UInt8} : ∀ (s : List UInt8), ∀ w ∈ splitOn c s, c ∉ w
  | [], w, h => by simp [splitOn] at h; subst h; simp
  | x :: l, w, h => by
    rw [splitOn] at h
    split at h
    · rcases List.mem_cons.1 h with rfl | h
      · simp
      · exact splitOn_mem l w h
    · rename_i hx
      cases hs : splitOn c l with
      | nil => exact absurd hs (splitOn_ne c l)
      | cons v vs =>
        rw [hs] at h
        simp only [List.mem_cons] at h
        rcases h with rfl | h
        · have := splitOn_mem l v (by rw [hs]; simp)
          rw [List.mem_cons]
          rintro (e | e)
          · exact hx e.symm
          · exact this e
        · exact splitOn_mem l w (by rw [hs]; simp [h])
theorem split_join {c : UInt8} : ∀ (ws : List (List UInt8)), ws ≠ [] → (∀ w ∈ ws, c ∉ w) → splitOn c (joinBy c ws) = ws
  | [], h, _ => absurd rfl h
  | [w], _, h => splitOn_one w (h w (by simp))
  | w :: v :: ws, _, h => by
    rw [joinBy, splitOn_mk _ _ (h w (by simp)), split_join (v :: ws) (by simp) (fun x hx => h x (List.mem_cons_of_mem _ hx))]

/-! ## words -/

def kindW : List (List UInt8) := [[], [112, 108, 97, 99, 101], [97, 100, 100], [112, 97, 121], [115, 104, 105, 112], [99, 97, 110, 99, 101, 108], [100, 114, 111, 112], [114, 101, 102, 117, 110, 100], [104, 111, 108, 100], [114, 101, 108, 101, 97, 115, 101], [99, 108, 101, 97, 114]]
def keyW : List (List UInt8) := [[111, 114, 100, 101, 114], [105, 116, 101, 109], [113, 116, 121], [112, 114, 105, 99, 101], [99, 117, 114], [116, 97, 120], [119, 104, 111], [115, 116, 97, 109, 112]]
def noteW : List UInt8 := [110, 111, 116, 101]

def kindWord (k : Int) : List UInt8 := kindW.getD k.toNat []
/-- the number of a kind's word; 0: none -/
def kindIdx (w : List UInt8) : Nat := match kindW.findIdx? (· == w) with | some k => k | none => 0
def keyIdx (w : List UInt8) : Option Nat := keyW.findIdx? (· == w)

def getKey (e : Ev) (k : Nat) : Int := match k with | 0 => e.order | 1 => e.item | 2 => e.qty | 3 => e.price | 4 => e.cur | 5 => e.tax | 7 => e.stamp | _ => 0
def setKey (e : Ev) (k : Nat) (n : Int) : Ev :=
  match k with | 0 => { e with order := n } | 1 => { e with item := n } | 2 => { e with qty := n } | 3 => { e with price := n } | 4 => { e with cur := n } | 5 => { e with tax := n } | 7 => { e with stamp := n } | _ => e

/-- a key and its number -/
def keyPart (w : List UInt8) (n : Int) : List UInt8 := if n = 0 then [] else 32 :: (w ++ 61 :: Lib.itoa n)
def whoPart (s : List UInt8) : List UInt8 := if s = [] then [] else [32, 119, 104, 111, 61] ++ s
def notePart (s : List UInt8) : List UInt8 := if s = [] then [] else [32, 110, 111, 116, 101, 61] ++ hexOf s
/-- the part of the key k -/
def partOf (e : Ev) (k : Nat) : List UInt8 := if k = 6 then whoPart e.who else keyPart (keyW.getD k []) (getKey e k)
def partsTo (e : Ev) : Nat → List UInt8
  | 0 => []
  | k + 1 => partsTo e k ++ partOf e k
/-- an event as words -/
def wordsOf (e : Ev) : List UInt8 := kindWord e.kind ++ partsTo e 8 ++ notePart e.note
def dumpWords (v : Int) (e : Ev) : List UInt8 × Int := if evCheck v e = 0 then (wordsOf e, 0) else ([], evCheck v e)

/-- the words behind the kind, from the key 'next' on -/
def fieldsOf (next : Nat) (e : Ev) : List (List UInt8) → Ev × Int
  | [] => (e, 0)
  | w :: ws =>
    match cutAt 61 w with
    | none => (evNone, 100)
    | some (name, val) =>
      if name = noteW ∧ ws = [] then
        match unhexOf val with
        | none => (evNone, 101)
        | some b => if b = [] then (evNone, 101) else ({ e with note := b }, 0)
      else match keyIdx name with
      | none => (evNone, 100)
      | some k =>
        if k < next then (evNone, 100)
        else if k = 6 then (if val = [] then (evNone, 101) else fieldsOf 7 { e with who := val } ws)
        else match numberOf val with
        | none => (evNone, 101)
        | some n => if n = 0 then (evNone, 101) else fieldsOf (k + 1) (setKey e k n) ws

/-- an event of words: and what is wrong -/
def eventOf (v : Int) (s : List UInt8) : Ev × Int :=
  match splitOn 32 s with
  | [] => (evNone, 100)
  | w :: ws =>
    if kindIdx w = 0 then (evNone, 100)
    else
      let r := fieldsOf 0 { evNone with kind := kindIdx w } ws
      if r.2 ≠ 0 then (evNone, r.2)
      else if evCheck v r.1 ≠ 0 then (evNone, evCheck v r.1)
      else (r.1, 0)

/-- a record as a line -/
def lineOf (seq : Int) (e : Ev) : List UInt8 × Int :=
  if seq < 1 ∨ 1099511627776 < seq then ([], 1)
  else if evCheck 5 e ≠ 0 then ([], evCheck 5 e)
  else (Lib.itoa seq ++ 32 :: wordsOf e, 0)

/-- a record of a line -/
def recordOf (s : List UInt8) : (Int × Ev) × Int :=
  match cutAt 32 s with
  | none => ((0, evNone), 100)
  | some (a, b) =>
    match numberOf a with
    | none => ((0, evNone), 101)
    | some n =>
      if n < 1 ∨ 1099511627776 < n then ((0, evNone), 1)
      else if (eventOf 5 b).2 ≠ 0 then ((0, evNone), (eventOf 5 b).2)
      else ((n, (eventOf 5 b).1), 0)

/-- records as lines -/
def textOf : List (Int × Ev) → List UInt8 × Int
  | [] => ([], 0)
  | r :: rs =>
    if (lineOf r.1 r.2).2 ≠ 0 then ([], (lineOf r.1 r.2).2)
    else if (textOf rs).2 ≠ 0 then ([], (textOf rs).2)
    else ((lineOf r.1 r.2).1 ++ 10 :: (textOf rs).1, 0)

/-- lines, read: the records, the number of the line that is refused, and why; n is the number of the first line -/
def linesOf (n : Int) : List (List UInt8) → List (Int × Ev) × Int × Int
  | [] => ([], 0, 0)
  | [w] => if w = [] then ([], 0, 0) else ([], n, 10)
  | w :: v :: ws =>
    if (recordOf w).2 ≠ 0 then ([], n, (recordOf w).2)
    else if (linesOf (n + 1) (v :: ws)).2.2 ≠ 0 then ([], (linesOf (n + 1) (v :: ws)).2) else ((recordOf w).1 :: (linesOf (n + 1) (v :: ws)).1, 0, 0)
def readOf (s : List UInt8) : List (Int × Ev) × Int × Int := linesOf 1 (splitOn 10 s)

end Go.Proofs.YtlobohpbgghleaaDoor
