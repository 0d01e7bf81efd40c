import Derived.Test.YtecmpmnidlfgnaaGreatDoorDumpBack
namespace Go.Proofs.YtecmpmnidlfgnaaGreatDoor

instance : DecidableEq Ev := fun a b =>
  decidable_of_iff (a.kind = b.kind ∧ a.order = b.order ∧ a.item = b.item ∧ a.qty = b.qty ∧ a.price = b.price ∧ a.cur = b.cur ∧ a.tax = b.tax ∧ a.who = b.who ∧ a.stamp = b.stamp ∧ a.note = b.note)
    ⟨fun ⟨h0, h1, h2, h3, h4, h5, h6, h7, h8, h9⟩ => Ev.ext' h0 h1 h2 h3 h4 h5 h6 h7 h8 h9, by rintro rfl; simp⟩

/-- a command -/
structure Cmd where
  verb : List UInt8
  nums : List Int
  ev : Ev
  raw : List UInt8

def vNothing : List (List UInt8) := [[115, 121, 110, 99], [114, 111, 116, 97, 116, 101], [115, 110, 97, 112, 115, 104, 111, 116], [99, 111, 109, 112, 97, 99, 116], [99, 108, 111, 115, 101], [108, 105, 115, 116], [97, 117, 100, 105, 116], [118, 105, 101, 119], [101, 114, 114], [111, 114, 100, 101, 114, 115]]
def vNumber : List (List UInt8) := [[100, 105, 115, 107], [108, 111, 97, 100], [114, 101, 112, 108, 97, 121], [102, 117, 115, 101]]
def vOpen : List UInt8 := [111, 112, 101, 110]
def vCrash : List UInt8 := [99, 114, 97, 115, 104]
def vAppend : List UInt8 := [97, 112, 112, 101, 110, 100]
def vPut : List UInt8 := [112, 117, 116]

def shapeV (v : List UInt8) : Nat := if v ∈ vNothing then 0 else if v ∈ vNumber then 1 else if v = vOpen then 2 else if v = vCrash then 3 else if v = vAppend then 4 else if v = vPut then 5 else 6
def countOk (s n : Nat) : Bool := if s = 1 ∨ s = 4 then n == 1 else if s = 2 then n == 2 else if s = 3 then decide (n ≤ 64) else n == 0
def leastOf (v : List UInt8) : Int := if v = vOpen then 2 else if v ∈ vNumber ∨ v = vAppend then 1 else if v ∈ vNothing ∨ v = vCrash ∨ v = vPut then 0 else -1
def mostOf (v : List UInt8) : Int := if v = vCrash then 64 else leastOf v

def cmdNone : Cmd := ⟨[], [], evNone, []⟩
def numsOf : List (List UInt8) → Option (List Int)
  | [] => some []
  | w :: ws => match numberOf w with | none => none | some n => (numsOf ws).map (n :: ·)
def numTail (ns : List Int) : List UInt8 := blanked (ns.map Lib.itoa)

def cmdLine (c : Cmd) : List UInt8 × Int :=
  if shapeV c.verb = 6 ∨ countOk (shapeV c.verb) c.nums.length = false then ([], 100)
  else if (shapeV c.verb ≠ 4 ∧ c.ev ≠ evNone) ∨ (shapeV c.verb ≠ 5 ∧ c.raw ≠ []) then ([], 32)
  else if shapeV c.verb = 4 then
    (if (dumpWords (c.nums.headD 0) c.ev).2 ≠ 0 then ([], (dumpWords (c.nums.headD 0) c.ev).2) else (c.verb ++ numTail c.nums ++ 32 :: (dumpWords (c.nums.headD 0) c.ev).1, 0))
  else if shapeV c.verb = 5 then (if c.raw = [] then ([], 101) else (c.verb ++ numTail c.nums ++ 32 :: hexOf c.raw, 0))
  else (c.verb ++ numTail c.nums, 0)

def cmdApp (v : List UInt8) (args : List (List UInt8)) : Cmd × Int := match args with
  | a :: b :: rest => match numberOf a with
    | none => (cmdNone, 101)
    | some n => if (eventOf n (joinBy 32 (b :: rest))).2 ≠ 0 then (cmdNone, (eventOf n (joinBy 32 (b :: rest))).2) else (⟨v, [n], (eventOf n (joinBy 32 (b :: rest))).1, []⟩, 0)
  | _ => (cmdNone, 100)
def cmdPut (v : List UInt8) (args : List (List UInt8)) : Cmd × Int := match args with
  | [a] => match unhexOf a with
    | none => (cmdNone, 101)
    | some b => if b = [] then (cmdNone, 101) else (⟨v, [], evNone, b⟩, 0)
  | _ => (cmdNone, 100)
def cmdNums (v : List UInt8) (args : List (List UInt8)) : Cmd × Int :=
  if countOk (shapeV v) args.length = false then (cmdNone, 100) else match numsOf args with | none => (cmdNone, 101) | some ns => (⟨v, ns, evNone, []⟩, 0)
def cmdParts (v : List UInt8) (args : List (List UInt8)) : Cmd × Int :=
  if shapeV v = 6 then (cmdNone, 100) else if shapeV v = 4 then cmdApp v args else if shapeV v = 5 then cmdPut v args else cmdNums v args
def cmdOf (s : List UInt8) : Cmd × Int := match splitOn 32 s with
  | [] => (cmdNone, 0)
  | v :: args => cmdParts v args

def linesC (n : Int) : List (List UInt8) → List Cmd × Int × Int
  | [] => ([], 0, 0)
  | [w] => if w = [] then ([], 0, 0) else if 400 < n then ([], n, 102) else ([], n, 10)
  | w :: v :: ws =>
    if 400 < n then ([], n, 102)
    else if (cmdOf w).2 ≠ 0 then ([], n, (cmdOf w).2)
    else if (linesC (n + 1) (v :: ws)).2.2 ≠ 0 then ([], (linesC (n + 1) (v :: ws)).2) else ((cmdOf w).1 :: (linesC (n + 1) (v :: ws)).1, 0, 0)
def parseOf (s : List UInt8) : List Cmd × Int × Int := if 65536 < s.length then ([], 0, 102) else linesC 1 (splitOn 10 s)

def printC (i len : Nat) : List Cmd → List UInt8 × Int × Int
  | [] => ([], 0, 0)
  | c :: cs =>
    if 400 ≤ i then ([], i + 1, 102)
    else if (cmdLine c).2 ≠ 0 then ([], i + 1, (cmdLine c).2)
    else if 65536 < len + (cmdLine c).1.length + 1 then ([], i + 1, 102)
    else if (printC (i + 1) (len + (cmdLine c).1.length + 1) cs).2.2 ≠ 0 then ([], (printC (i + 1) (len + (cmdLine c).1.length + 1) cs).2)
    else ((cmdLine c).1 ++ 10 :: (printC (i + 1) (len + (cmdLine c).1.length + 1) cs).1, 0, 0)
def printOf (cs : List Cmd) : List UInt8 × Int × Int := printC 0 0 cs

/-! ## the shapes -/

theorem shape_cases (v : List UInt8) : (v ∈ vNothing ∧ shapeV v = 0) ∨ (v ∈ vNumber ∧ shapeV v = 1) ∨ (v = vOpen ∧ shapeV v = 2) ∨ (v = vCrash ∧ shapeV v = 3) ∨ (v = vAppend ∧ shapeV v = 4) ∨ (v = vPut ∧ shapeV v = 5) ∨
    (v ∉ vNothing ∧ v ∉ vNumber ∧ v ≠ vOpen ∧ v ≠ vCrash ∧ v ≠ vAppend ∧ v ≠ vPut ∧ shapeV v = 6) := by
  unfold shapeV
  split
  · rename_i h; exact .inl ⟨h, rfl⟩
  split
  · rename_i h; exact .inr (.inl ⟨h, rfl⟩)
  split
  · rename_i h; exact .inr (.inr (.inl ⟨h, rfl⟩))
  split
  · rename_i h; exact .inr (.inr (.inr (.inl ⟨h, rfl⟩)))
  split
  · rename_i h; exact .inr (.inr (.inr (.inr (.inl ⟨h, rfl⟩))))
  split
  · rename_i h; exact .inr (.inr (.inr (.inr (.inr (.inl ⟨h, rfl⟩)))))
  · rename_i h1 h2 h3 h4 h5 h6; exact .inr (.inr (.inr (.inr (.inr (.inr ⟨h1, h2, h3, h4, h5, h6, rfl⟩)))))

theorem verb_chars {v : List UInt8} (h : shapeV v ≠ 6) : ∀ c ∈ v, c.toNat ≠ 32 ∧ c.toNat ≠ 10 := by
  have h1 : ∀ v ∈ vNothing, ∀ c ∈ v, c.toNat ≠ 32 ∧ c.toNat ≠ 10 := by decide
  have h2 : ∀ v ∈ vNumber, ∀ c ∈ v, c.toNat ≠ 32 ∧ c.toNat ≠ 10 := by decide
  rcases shape_cases v with ⟨h, _⟩ | ⟨h, _⟩ | ⟨rfl, _⟩ | ⟨rfl, _⟩ | ⟨rfl, _⟩ | ⟨rfl, _⟩ | ⟨_, _, _, _, _, _, h6⟩
  · exact h1 v h
  · exact h2 v h
  · decide
  · decide
  · decide
  · decide
  · exact absurd h6 h

theorem verb_len {v : List UInt8} (h : shapeV v ≠ 6) : v.length ≤ 8 := by
  have h1 : ∀ v ∈ vNothing, v.length ≤ 8 := by decide
  have h2 : ∀ v ∈ vNumber, v.length ≤ 8 := by decide
  rcases shape_cases v with ⟨h, _⟩ | ⟨h, _⟩ | ⟨rfl, _⟩ | ⟨rfl, _⟩ | ⟨rfl, _⟩ | ⟨rfl, _⟩ | ⟨_, _, _, _, _, _, h6⟩
  · exact h1 v h
  · exact h2 v h
  · decide
  · decide
  · decide
  · decide
  · exact absurd h6 h

theorem least_shape (v : List UInt8) : leastOf v = (match shapeV v with | 0 => 0 | 1 => 1 | 2 => 2 | 3 => 0 | 4 => 1 | 5 => 0 | _ => -1) ∧ mostOf v = (match shapeV v with | 0 => 0 | 1 => 1 | 2 => 2 | 3 => 64 | 4 => 1 | 5 => 0 | _ => -1) := by
  have h1 : ∀ v ∈ vNothing, leastOf v = 0 ∧ mostOf v = 0 := by decide
  have h2 : ∀ v ∈ vNumber, leastOf v = 1 ∧ mostOf v = 1 := by decide
  rcases shape_cases v with ⟨h, e⟩ | ⟨h, e⟩ | ⟨rfl, e⟩ | ⟨rfl, e⟩ | ⟨rfl, e⟩ | ⟨rfl, e⟩ | ⟨n0, n1, n2, n3, n4, n5, e⟩
  · rw [e]; exact h1 v h
  · rw [e]; exact h2 v h
  · rw [e]; decide
  · rw [e]; decide
  · rw [e]; decide
  · rw [e]; decide
  · rw [e]
    have : leastOf v = -1 := by unfold leastOf; rw [if_neg n2, if_neg (by rintro (h | h); exact n1 h; exact n4 h), if_neg (by rintro (h | h | h); exact n0 h; exact n3 h; exact n5 h)]
    exact ⟨this, by unfold mostOf; rw [if_neg n3]; exact this⟩

theorem shape_le (v : List UInt8) : shapeV v ≤ 6 := by
  rcases shape_cases v with ⟨_, e⟩ | ⟨_, e⟩ | ⟨_, e⟩ | ⟨_, e⟩ | ⟨_, e⟩ | ⟨_, e⟩ | ⟨_, _, _, _, _, _, e⟩ <;> omega

/-- a verb, and so many numbers: by the bounds -/
theorem count_iff (v : List UInt8) (n : Nat) : (shapeV v = 6 ∨ countOk (shapeV v) n = false) ↔ (leastOf v < 0 ∨ (n : Int) < leastOf v ∨ mostOf v < (n : Int)) := by
  obtain ⟨h1, h2⟩ := least_shape v
  rw [h1, h2]
  have := shape_le v
  generalize shapeV v = s at *
  match s, this with
  | 0, _ => simp [countOk]; omega
  | 1, _ => simp [countOk]; omega
  | 2, _ => simp [countOk]; omega
  | 3, _ => simp [countOk]; omega
  | 4, _ => simp [countOk]; omega
  | 5, _ => simp [countOk]; omega
  | 6, _ => simp

/-! ## there and back -/

theorem numsOf_map (ns : List Int) (h : ∀ n ∈ ns, I64 n) : numsOf (ns.map Lib.itoa) = some ns := by
  induction ns with
  | nil => rfl
  | cons n ns ih =>
    rw [List.map_cons, numsOf, (numberOf_iff _ _).2 ⟨h n (by simp), rfl⟩, ih fun m hm => h m (List.mem_cons_of_mem _ hm)]; rfl
theorem numsOf_some : ∀ (ws : List (List UInt8)) (ns : List Int), numsOf ws = some ns → ws = ns.map Lib.itoa ∧ ∀ n ∈ ns, I64 n
  | [], ns, h => by simp [numsOf] at h; subst h; simp
  | w :: ws, ns, h => by
    rw [numsOf] at h
    cases hw : numberOf w with
    | none => rw [hw] at h; simp at h
    | some n =>
      rw [hw] at h
      cases hr : numsOf ws with
      | none => rw [hr] at h; simp at h
      | some r =>
        rw [hr] at h
        simp only [Option.map_some, Option.some.injEq] at h
        subst h
        obtain ⟨e1, e2⟩ := numsOf_some ws r hr
        obtain ⟨i1, i2⟩ := (numberOf_iff w n).1 hw
        exact ⟨by rw [List.map_cons, i2, ← e1], fun m hm => by rcases List.mem_cons.1 hm with rfl | hm; exact i1; exact e2 m hm⟩
theorem numsOf_length {ws : List (List UInt8)} {ns : List Int} (h : numsOf ws = some ns) : ws.length = ns.length := by
  rw [(numsOf_some ws ns h).1, List.length_map]

theorem join3 (v a : List UInt8) (ws : List (List UInt8)) (h : ws ≠ []) : joinBy 32 (v :: a :: ws) = v ++ 32 :: (a ++ 32 :: joinBy 32 ws) := by
  cases ws with
  | nil => exact absurd rfl h
  | cons w ws => rw [joinBy, joinBy]


theorem cmd_there {c : Cmd} {l : List UInt8} (hn : ∀ n ∈ c.nums, I64 n) (h : cmdLine c = (l, 0)) : cmdOf l = (c, 0) ∧ (10 : UInt8) ∉ l := by
  obtain ⟨v, ns, e, raw⟩ := c
  unfold cmdLine at h
  simp only at h hn
  split at h
  · simp at h
  rename_i h1
  split at h
  · simp at h
  rename_i h2
  have h6 : shapeV v ≠ 6 := fun x => h1 (.inl x)
  have hc : countOk (shapeV v) ns.length = true := by simpa using fun x => h1 (.inr x)
  have hv := verb_chars h6
  have hv32 : (32 : UInt8) ∉ v := fun x => (hv 32 x).1 rfl
  have hv10 : (10 : UInt8) ∉ v := fun x => (hv 10 x).2 rfl
  have key : ∀ ws : List (List UInt8), (∀ w ∈ ws, ∀ c ∈ w, c.toNat ≠ 32 ∧ c.toNat ≠ 10) → (10 : UInt8) ∉ blanked ws := by
    intro ws hws hm
    unfold blanked at hm
    rw [List.mem_flatten] at hm
    obtain ⟨x, hx, hx2⟩ := hm
    obtain ⟨y, hy, rfl⟩ := List.mem_map.1 hx
    rcases List.mem_cons.1 hx2 with hx2 | hx2
    · exact absurd hx2 (by decide)
    · exact (hws y hy 10 hx2).2 rfl
  have hni : ∀ w ∈ ns.map Lib.itoa, ∀ c ∈ w, c.toNat ≠ 32 ∧ c.toNat ≠ 10 := by
    intro w hw
    obtain ⟨n, _, rfl⟩ := List.mem_map.1 hw
    exact fun c hc => ⟨(itoa_chars n c hc).1, (itoa_chars n c hc).2.1⟩
  have hnt : (10 : UInt8) ∉ numTail ns := key _ hni
  split at h
  · rename_i h4
    split at h
    · rename_i hb; injection h with _ hb2; exact absurd hb2 hb
    rename_i hw0
    have hw0 : (dumpWords (ns.headD 0) e).2 = 0 := Classical.byContradiction hw0
    injection h with h _
    rw [h4] at hc
    have hl1 : ns.length = 1 := by simpa [countOk] using hc
    obtain ⟨n, rfl⟩ := List.length_eq_one_iff.1 hl1
    have hraw : raw = [] := Classical.byContradiction fun x => h2 (.inr ⟨by omega, x⟩)
    subst hraw
    simp only [List.headD_cons] at hw0 h
    have hck : evCheck n e = 0 := by
      unfold dumpWords at hw0
      split at hw0
      · assumption
      · exact hw0
    have hwd : (dumpWords n e).1 = wordsOf e := by unfold dumpWords; rw [if_pos hck]
    rw [hwd] at h
    have hwc := words_chars hck
    have hj := wordsOf_join e
    have hch := wordsOf_chars hck
    obtain ⟨ws, hws⟩ : ∃ ws, ws = kindWord e.kind :: (wordsFrom e 0 8 ++ noteWords e) := ⟨_, rfl⟩
    have hne : ws ≠ [] := by rw [hws]; simp
    rw [← hws] at hj hwc
    have hl : l = joinBy 32 (v :: Lib.itoa n :: ws) := by
      rw [join3 _ _ _ hne, ← hj, ← h]
      simp [numTail, blanked]
    have hsp : splitOn 32 l = v :: Lib.itoa n :: ws := by
      rw [hl]
      refine split_join _ (by simp) ?_
      intro w hw
      rcases List.mem_cons.1 hw with rfl | hw
      · exact hv32
      rcases List.mem_cons.1 hw with rfl | hw
      · exact itoa_no32 n
      · exact fun hm => (hwc w hw 32 hm).1 rfl
    refine ⟨?_, ?_⟩
    · unfold cmdOf
      rw [hsp]
      simp only
      unfold cmdParts
      rw [if_neg h6, if_pos h4]
      unfold cmdApp
      obtain ⟨w0, wr, hw⟩ : ∃ w0 wr, ws = w0 :: wr := ⟨_, _, hws⟩
      rw [hw] at hj ⊢
      simp only
      rw [(numberOf_iff _ _).2 ⟨hn n (by simp), rfl⟩]
      simp only
      rw [← hj, event_there hck]
      simp
    · rw [← h]
      simp only [List.mem_append, List.mem_cons, not_or]
      exact ⟨⟨hv10, hnt⟩, by decide, hch⟩
  rename_i h4
  have he : e = evNone := Classical.byContradiction fun x => h2 (.inl ⟨h4, x⟩)
  subst he
  split at h
  · rename_i h5
    split at h
    · simp at h
    rename_i hraw
    injection h with h _
    rw [h5] at hc
    have hns : ns = [] := by simpa [countOk] using hc
    subst hns
    have hhc := hexOf_chars raw
    have hl : l = joinBy 32 [v, hexOf raw] := by rw [← h]; simp [numTail, blanked, joinBy]
    have hsp : splitOn 32 l = [v, hexOf raw] := by
      rw [hl]
      refine split_join _ (by simp) ?_
      intro w hw
      rcases List.mem_cons.1 hw with rfl | hw
      · exact hv32
      · rw [List.mem_singleton.1 hw]; exact fun hm => (hhc 32 hm).1 rfl
    refine ⟨?_, ?_⟩
    · unfold cmdOf
      rw [hsp]
      simp only
      unfold cmdParts
      rw [if_neg h6, if_neg h4, if_pos h5]
      unfold cmdPut
      simp only
      rw [unhex_hex]
      simp only
      rw [if_neg hraw]
    · rw [← h]
      simp only [List.mem_append, List.mem_cons, not_or]
      exact ⟨⟨hv10, hnt⟩, by decide, fun hm => (hhc 10 hm).2 rfl⟩
  · rename_i h5
    injection h with h _
    have hraw : raw = [] := Classical.byContradiction fun x => h2 (.inr ⟨h5, x⟩)
    subst hraw
    have hl : l = joinBy 32 (v :: ns.map Lib.itoa) := by rw [joinBy_blanked, ← h]; rfl
    have hsp : splitOn 32 l = v :: ns.map Lib.itoa := by
      rw [hl]
      refine split_join _ (by simp) ?_
      intro w hw
      rcases List.mem_cons.1 hw with rfl | hw
      · exact hv32
      · exact fun hm => (hni w hw 32 hm).1 rfl
    refine ⟨?_, ?_⟩
    · unfold cmdOf
      rw [hsp]
      simp only
      unfold cmdParts
      rw [if_neg h6, if_neg h4, if_neg h5]
      unfold cmdNums
      rw [List.length_map, hc, if_neg (by decide), numsOf_map ns hn]
    · rw [← h]
      simp only [List.mem_append, not_or]
      exact ⟨hv10, hnt⟩

theorem cmdLine_4 {v : List UInt8} (n : Int) (e : Ev) (h4 : shapeV v = 4) : cmdLine ⟨v, [n], e, []⟩ = if (dumpWords n e).2 ≠ 0 then ([], (dumpWords n e).2) else (v ++ numTail [n] ++ 32 :: (dumpWords n e).1, 0) := by
  unfold cmdLine
  dsimp only
  rw [if_neg (show ¬ (shapeV v = 6 ∨ countOk (shapeV v) [n].length = false) by rw [h4, List.length_singleton]; decide), if_neg (show ¬ ((shapeV v ≠ 4 ∧ e ≠ evNone) ∨ (shapeV v ≠ 5 ∧ ([] : List UInt8) ≠ [])) by rw [h4]; simp), if_pos h4]
  rfl
theorem cmdLine_5 {v : List UInt8} {raw : List UInt8} (h5 : shapeV v = 5) (hr : raw ≠ []) : cmdLine ⟨v, [], evNone, raw⟩ = (v ++ numTail [] ++ 32 :: hexOf raw, 0) := by
  unfold cmdLine
  dsimp only
  rw [if_neg (show ¬ (shapeV v = 6 ∨ countOk (shapeV v) ([] : List Int).length = false) by rw [h5]; decide), if_neg (show ¬ ((shapeV v ≠ 4 ∧ evNone ≠ evNone) ∨ (shapeV v ≠ 5 ∧ raw ≠ [])) by rw [h5]; simp), if_neg (by omega), if_pos h5, if_neg hr]
theorem cmdLine_n {v : List UInt8} {ns : List Int} (h6 : shapeV v ≠ 6) (h4 : shapeV v ≠ 4) (h5 : shapeV v ≠ 5) (hc : countOk (shapeV v) ns.length = true) : cmdLine ⟨v, ns, evNone, []⟩ = (v ++ numTail ns, 0) := by
  unfold cmdLine
  dsimp only
  rw [if_neg (show ¬ (shapeV v = 6 ∨ countOk (shapeV v) ns.length = false) by rintro (x | x); exact h6 x; rw [hc] at x; exact absurd x (by decide)), if_neg (show ¬ ((shapeV v ≠ 4 ∧ evNone ≠ evNone) ∨ (shapeV v ≠ 5 ∧ ([] : List UInt8) ≠ [])) by simp), if_neg h4, if_neg h5]

theorem cmd_back {c : Cmd} {l : List UInt8} (h : cmdOf l = (c, 0)) : cmdLine c = (l, 0) ∧ ∀ n ∈ c.nums, I64 n := by
  have hj := join_split 32 l
  unfold cmdOf at h
  cases hs : splitOn 32 l with
  | nil => exact absurd hs (splitOn_ne 32 l)
  | cons v args =>
    rw [hs] at h hj
    simp only at h
    unfold cmdParts at h
    split at h
    · simp at h
    rename_i h6
    split at h
    · rename_i h4
      unfold cmdApp at h
      split at h
      · rename_i a b rest
        split at h
        · simp at h
        rename_i n hn
        split at h
        · rename_i hb; injection h with _ hb2; exact absurd hb2 hb
        rename_i hb
        have hb : (eventOf n (joinBy 32 (b :: rest))).2 = 0 := Classical.byContradiction hb
        injection h with h _
        subst h
        obtain ⟨i1, i2⟩ := (numberOf_iff a n).1 hn
        obtain ⟨e1, e2⟩ := event_back (show eventOf n (joinBy 32 (b :: rest)) = ((eventOf n (joinBy 32 (b :: rest))).1, 0) from by rw [← hb])
        refine ⟨?_, by simpa using i1⟩
        rw [cmdLine_4 _ _ h4]
        have hd : dumpWords n (eventOf n (joinBy 32 (b :: rest))).1 = (wordsOf (eventOf n (joinBy 32 (b :: rest))).1, 0) := by unfold dumpWords; rw [if_pos e1]
        rw [hd, e2, ← hj, join3 _ _ _ (by simp), ← i2]
        simp [numTail, blanked]
      · simp at h
    rename_i h4
    split at h
    · rename_i h5
      unfold cmdPut at h
      split at h
      · rename_i a
        split at h
        · simp at h
        rename_i b hb
        split at h
        · simp at h
        rename_i hne
        injection h with h _
        subst h
        refine ⟨?_, by simp⟩
        rw [cmdLine_5 h5 hne, hex_unhex a b hb, ← hj]
        simp [numTail, blanked, joinBy]
      · simp at h
    · rename_i h5
      unfold cmdNums at h
      split at h
      · simp at h
      rename_i hc
      split at h
      · simp at h
      rename_i ns hns
      injection h with h _
      subst h
      obtain ⟨e1, e2⟩ := numsOf_some args ns hns
      refine ⟨?_, e2⟩
      rw [cmdLine_n h6 h4 h5 (by rw [← numsOf_length hns]; simpa using hc), ← hj, joinBy_blanked, e1]
      rfl

theorem linesC_zero : ∀ (ws : List (List UInt8)) (n : Int), (linesC n ws).2.2 = 0 → (linesC n ws).2.1 = 0
  | [], n, _ => rfl
  | [w], n, h => by
    rw [linesC] at h ⊢
    split
    · rfl
    · rename_i hw; rw [if_neg hw] at h; split at h <;> simp at h
  | w :: v :: ws, n, h => by
    rw [linesC] at h ⊢
    split at h
    · simp at h
    split at h
    · rename_i hb; exact absurd h hb
    split at h
    · rename_i hb; exact absurd h hb
    rename_i h1 h2 h3
    rw [if_neg h1, if_neg h2, if_neg h3]

theorem linesC_bad : ∀ (ws : List (List UInt8)) (n : Int), (linesC n ws).2.2 ≠ 0 → (linesC n ws).1 = []
  | [], n, _ => rfl
  | [w], n, h => by rw [linesC]; split; rfl; split <;> rfl
  | w :: v :: ws, n, h => by
    rw [linesC] at h ⊢
    split
    · rfl
    split
    · rfl
    split
    · rfl
    rename_i h1 h2 h3
    rw [if_neg h1, if_neg h2, if_neg h3] at h
    exact absurd rfl h

theorem printC_bad : ∀ (cs : List Cmd) (i len : Nat), (printC i len cs).2.2 ≠ 0 → (printC i len cs).1 = [] ∧ (i : Int) < (printC i len cs).2.1 ∧ (printC i len cs).2.1 ≤ i + cs.length
  | [], i, len, h => absurd rfl h
  | c :: cs, i, len, h => by
    rw [printC] at h ⊢
    split
    · exact ⟨rfl, by simp; omega, by simp; omega⟩
    split
    · exact ⟨rfl, by simp; omega, by simp; omega⟩
    split
    · exact ⟨rfl, by simp; omega, by simp; omega⟩
    rename_i h1 h2 h3
    rw [if_neg h1, if_neg h2, if_neg h3] at h
    split
    · rename_i h4
      have := printC_bad cs (i + 1) _ h4
      refine ⟨rfl, ?_, ?_⟩ <;> simp <;> omega
    · rename_i h4; rw [if_neg h4] at h; exact absurd rfl h

theorem printC_zero : ∀ (cs : List Cmd) (i len : Nat), (printC i len cs).2.2 = 0 → (printC i len cs).2.1 = 0 ∧ len + (printC i len cs).1.length ≤ 65536 ∨ cs = []
  | [], i, len, _ => .inr rfl
  | c :: cs, i, len, h => by
    rw [printC] at h ⊢
    split at h
    · simp at h
    split at h
    · rename_i hb; exact absurd h hb
    split at h
    · simp at h
    rename_i h1 h2 h3
    split at h
    · rename_i hb; exact absurd h hb
    rename_i h4
    rw [if_neg h1, if_neg h2, if_neg h3, if_neg h4]
    have h4 : (printC (i + 1) (len + (cmdLine c).1.length + 1) cs).2.2 = 0 := Classical.byContradiction h4
    refine .inl ⟨rfl, ?_⟩
    rcases printC_zero cs _ _ h4 with ⟨_, h5⟩ | rfl
    · simp; omega
    · simp [printC]; omega

/-- a script that is printed is read -/
theorem printC_there : ∀ (cs : List Cmd) (i len : Nat), (∀ c ∈ cs, ∀ n ∈ c.nums, I64 n) → (printC i len cs).2.2 = 0 → linesC (i + 1 : Nat) (splitOn 10 (printC i len cs).1) = (cs, 0, 0)
  | [], i, len, _, _ => by simp [printC, splitOn, linesC]
  | c :: cs, i, len, hn, h => by
    rw [printC] at h ⊢
    split at h
    · simp at h
    split at h
    · rename_i hb; exact absurd h hb
    split at h
    · simp at h
    rename_i h1 h2 h3
    split at h
    · rename_i hb; exact absurd h hb
    rename_i h4
    rw [if_neg h1, if_neg h2, if_neg h3, if_neg h4]
    have h2 : (cmdLine c).2 = 0 := Classical.byContradiction h2
    have h4 : (printC (i + 1) (len + (cmdLine c).1.length + 1) cs).2.2 = 0 := Classical.byContradiction h4
    have ih := printC_there cs (i + 1) _ (fun d hd => hn d (List.mem_cons_of_mem _ hd)) h4
    obtain ⟨e1, e2⟩ := cmd_there (hn c (by simp)) (show cmdLine c = ((cmdLine c).1, 0) by rw [← h2])
    simp only
    rw [splitOn_mk _ _ e2]
    obtain ⟨x, xs, hx⟩ : ∃ x xs, splitOn 10 (printC (i + 1) (len + (cmdLine c).1.length + 1) cs).1 = x :: xs := by
      cases hh : splitOn 10 (printC (i + 1) (len + (cmdLine c).1.length + 1) cs).1 with
      | nil => exact absurd hh (splitOn_ne _ _)
      | cons x xs => exact ⟨x, xs, rfl⟩
    rw [hx] at ih ⊢
    rw [linesC, if_neg (by omega), e1]
    simp only
    rw [show ((i + 1 : Nat) : Int) + 1 = ((i + 1 + 1 : Nat) : Int) by omega, ih]
    simp

theorem print_there {cs : List Cmd} (hn : ∀ c ∈ cs, ∀ n ∈ c.nums, I64 n) (h : (printOf cs).2.2 = 0) : parseOf (printOf cs).1 = (cs, 0, 0) ∧ (printOf cs).2.1 = 0 ∧ (printOf cs).1.length ≤ 65536 := by
  unfold printOf at h ⊢
  have hl : (printC 0 0 cs).2.1 = 0 ∧ (printC 0 0 cs).1.length ≤ 65536 := by
    rcases printC_zero cs 0 0 h with ⟨h1, h2⟩ | rfl
    · exact ⟨h1, by omega⟩
    · simp [printC]
  refine ⟨?_, hl⟩
  unfold parseOf
  rw [if_neg (by omega)]
  exact printC_there cs 0 0 hn h

theorem linesC_back : ∀ (ws : List (List UInt8)) (i len : Nat) (cs : List Cmd), ws ≠ [] → linesC (i + 1 : Nat) ws = (cs, 0, 0) → len + (joinBy 10 ws).length ≤ 65536 → printC i len cs = (joinBy 10 ws, 0, 0) ∧ ∀ c ∈ cs, ∀ n ∈ c.nums, I64 n
  | [], _, _, _, h, _, _ => absurd rfl h
  | [w], i, len, cs, _, h, hl => by
    rw [linesC] at h
    split at h
    · rename_i hw
      subst hw
      injection h with h _
      subst h
      exact ⟨rfl, by simp⟩
    · split at h <;> simp at h
  | w :: v :: ws, i, len, cs, _, h, hl => by
    rw [linesC] at h
    split at h
    · simp at h
    split at h
    · rename_i hb; simp at h; exact absurd h.2.2 hb
    split at h
    · rename_i hb; injection h with _ h; rw [h] at hb; exact absurd rfl hb
    rename_i h1 h2 h3
    have h2 : (cmdOf w).2 = 0 := Classical.byContradiction h2
    have h3 : (linesC ((i + 1 : Nat) + 1) (v :: ws)).2.2 = 0 := Classical.byContradiction h3
    injection h with h _
    subst h
    obtain ⟨e1, e2⟩ := cmd_back (show cmdOf w = ((cmdOf w).1, 0) by rw [← h2])
    have h3' := linesC_zero _ _ h3
    have hl' : len + (w.length + 1 + (joinBy 10 (v :: ws)).length) ≤ 65536 := by rw [joinBy] at hl; simp at hl; omega
    obtain ⟨ih1, ih2⟩ := linesC_back (v :: ws) (i + 1) (len + w.length + 1) (linesC ((i + 1 : Nat) + 1) (v :: ws)).1 (by simp) (by rw [show ((i + 1 + 1 : Nat) : Int) = (i + 1 : Nat) + 1 by omega]; exact Prod.ext rfl (Prod.ext h3' h3)) (by omega)
    refine ⟨?_, ?_⟩
    · rw [printC, if_neg (by omega), e1]
      simp only
      rw [if_neg (by simp), if_neg (by omega), ih1]
      simp [joinBy]
    · intro c hc
      rcases List.mem_cons.1 hc with rfl | hc
      · exact e2
      · exact ih2 c hc

theorem parse_back {s : List UInt8} (h : (parseOf s).2.2 = 0) : printOf (parseOf s).1 = (s, 0, 0) ∧ (parseOf s).2.1 = 0 ∧ ∀ c ∈ (parseOf s).1, ∀ n ∈ c.nums, I64 n := by
  unfold parseOf at h ⊢
  split at h
  · simp at h
  rename_i hl
  rw [if_neg hl]
  have h1 := linesC_zero _ _ h
  obtain ⟨e1, e2⟩ := linesC_back (splitOn 10 s) 0 0 (linesC 1 (splitOn 10 s)).1 (splitOn_ne _ _) (Prod.ext rfl (Prod.ext h1 h)) (by rw [join_split]; omega)
  rw [join_split] at e1
  exact ⟨e1, h1, e2⟩

theorem parse_bad {s : List UInt8} (h : (parseOf s).2.2 ≠ 0) : (parseOf s).1 = [] := by
  unfold parseOf at h ⊢
  split
  · rfl
  · rename_i hl; rw [if_neg hl] at h; exact linesC_bad _ _ h

/-! ## from the left -/

def addP (S : List UInt8) (x : List UInt8 × Int × Int) : List UInt8 × Int × Int := if x.2.2 ≠ 0 then ([], x.2) else (S ++ x.1, 0, 0)
theorem addP_nil (cs : List Cmd) : printOf cs = addP [] (printC 0 0 cs) := by
  unfold addP printOf
  split
  · rename_i h; exact Prod.ext (printC_bad cs 0 0 h).1 rfl
  · rename_i h
    have h : (printC 0 0 cs).2.2 = 0 := Classical.byContradiction h
    rcases printC_zero cs 0 0 h with ⟨h1, _⟩ | rfl
    · exact Prod.ext (by simp) (Prod.ext h1 h)
    · rfl
theorem addP_many {S : List UInt8} {i : Nat} {c : Cmd} {cs : List Cmd} (h : 400 ≤ i) : addP S (printC i S.length (c :: cs)) = ([], ((i : Nat) : Int) + 1, 102) := by
  rw [printC, if_pos h]; unfold addP; simp
theorem addP_bad {S : List UInt8} {i : Nat} {c : Cmd} {cs : List Cmd} (h : ¬ 400 ≤ i) (h2 : (cmdLine c).2 ≠ 0) : addP S (printC i S.length (c :: cs)) = ([], ((i : Nat) : Int) + 1, (cmdLine c).2) := by
  rw [printC, if_neg h, if_pos h2]; unfold addP; simp [h2]
theorem addP_big {S : List UInt8} {i : Nat} {c : Cmd} {cs : List Cmd} (h : ¬ 400 ≤ i) (h2 : (cmdLine c).2 = 0) (h3 : 65536 < S.length + (cmdLine c).1.length + 1) : addP S (printC i S.length (c :: cs)) = ([], ((i : Nat) : Int) + 1, 102) := by
  rw [printC, if_neg h, if_neg (by simp [h2]), if_pos h3]; unfold addP; simp
theorem addP_good {S : List UInt8} {i : Nat} {c : Cmd} {cs : List Cmd} (h : ¬ 400 ≤ i) (h2 : (cmdLine c).2 = 0) (h3 : ¬ 65536 < S.length + (cmdLine c).1.length + 1) :
    addP S (printC i S.length (c :: cs)) = addP (S ++ ((cmdLine c).1 ++ [10])) (printC (i + 1) (S ++ ((cmdLine c).1 ++ [10])).length cs) := by
  rw [printC, if_neg h, if_neg (by simp [h2]), if_neg h3]
  have e : (S ++ ((cmdLine c).1 ++ [10])).length = S.length + (cmdLine c).1.length + 1 := by simp; omega
  rw [e]
  unfold addP
  by_cases h4 : (printC (i + 1) (S.length + (cmdLine c).1.length + 1) cs).2.2 ≠ 0
  · rw [if_pos h4]; simp [h4]
  · rw [if_neg h4]; simp [h4]
theorem addP_end (S : List UInt8) (i n : Nat) : addP S (printC i n []) = (S, 0, 0) := by unfold addP; simp [printC]

def addC (acc : List Cmd) (x : List Cmd × Int × Int) : List Cmd × Int × Int := if x.2.2 ≠ 0 then ([], x.2) else (acc ++ x.1, 0, 0)
theorem addC_nil (n : Int) (ws : List (List UInt8)) : linesC n ws = addC [] (linesC n ws) := by
  unfold addC
  split
  · rename_i h; exact Prod.ext (linesC_bad ws n h) rfl
  · rename_i h
    have h : (linesC n ws).2.2 = 0 := Classical.byContradiction h
    exact Prod.ext (by simp) (Prod.ext (linesC_zero ws n h) h)
theorem addC_many {acc : List Cmd} {n : Int} {w : List UInt8} {ws : List (List UInt8)} (h : 400 < n) (hw : ws ≠ [] ∨ w ≠ []) : addC acc (linesC n (w :: ws)) = ([], n, 102) := by
  cases ws with
  | nil => rw [linesC, if_neg (hw.resolve_left (by simp)), if_pos h]; unfold addC; simp
  | cons v ws => rw [linesC, if_pos h]; unfold addC; simp
theorem addC_short {acc : List Cmd} {n : Int} {w : List UInt8} (h : ¬ 400 < n) (hw : w ≠ []) : addC acc (linesC n [w]) = ([], n, 10) := by
  rw [linesC, if_neg hw, if_neg h]; unfold addC; simp
theorem addC_last {acc : List Cmd} {n : Int} : addC acc (linesC n [[]]) = (acc, 0, 0) := by unfold addC; simp [linesC]
theorem addC_bad {acc : List Cmd} {n : Int} {w : List UInt8} {ws : List (List UInt8)} (hn : ¬ 400 < n) (hw : ws ≠ []) (h : (cmdOf w).2 ≠ 0) : addC acc (linesC n (w :: ws)) = ([], n, (cmdOf w).2) := by
  cases ws with
  | nil => exact absurd rfl hw
  | cons v ws => rw [linesC, if_neg hn, if_pos h]; unfold addC; simp [h]
theorem addC_good {acc : List Cmd} {n : Int} {w : List UInt8} {ws : List (List UInt8)} (hn : ¬ 400 < n) (hw : ws ≠ []) (h : (cmdOf w).2 = 0) : addC acc (linesC n (w :: ws)) = addC (acc ++ [(cmdOf w).1]) (linesC (n + 1) ws) := by
  cases ws with
  | nil => exact absurd rfl hw
  | cons v ws =>
    rw [linesC, if_neg hn, if_neg (by simp [h])]
    unfold addC
    by_cases h4 : (linesC (n + 1) (v :: ws)).2.2 ≠ 0
    · rw [if_pos h4]; simp [h4]
    · rw [if_neg h4]; simp [h4]

/-- numbers, from the left -/
def addN (acc : List Int) (x : Option (List Int)) : Option (List Int) := x.map (acc ++ ·)
theorem addN_nil (x : Option (List Int)) : x = addN [] x := by cases x <;> rfl
theorem addN_bad {acc : List Int} {w : List UInt8} {ws : List (List UInt8)} (h : numberOf w = none) : addN acc (numsOf (w :: ws)) = none := by rw [numsOf, h]; rfl
theorem addN_good {acc : List Int} {w : List UInt8} {ws : List (List UInt8)} {n : Int} (h : numberOf w = some n) : addN acc (numsOf (w :: ws)) = addN (acc ++ [n]) (numsOf ws) := by
  rw [numsOf, h]
  cases numsOf ws with
  | none => rfl
  | some r => simp [addN]
theorem addN_end {acc : List Int} : addN acc (numsOf []) = some acc := by simp [addN, numsOf]

/-- the text's length, line by line -/
theorem cmdLine_bad {c : Cmd} (h : (cmdLine c).2 ≠ 0) : (cmdLine c).1 = [] := by
  unfold cmdLine at h ⊢
  split
  · rfl
  split
  · rfl
  split
  · split
    · rfl
    · rename_i h1 h2 h3 h4; rw [if_neg h1, if_neg h2, if_pos h3, if_neg h4] at h; exact absurd rfl h
  split
  · split
    · rfl
    · rename_i h1 h2 h3 h4 h5; rw [if_neg h1, if_neg h2, if_neg h3, if_pos h4, if_neg h5] at h; exact absurd rfl h
  · rename_i h1 h2 h3 h4; rw [if_neg h1, if_neg h2, if_neg h3, if_neg h4] at h; exact absurd rfl h

end Go.Proofs.YtecmpmnidlfgnaaGreatDoor
