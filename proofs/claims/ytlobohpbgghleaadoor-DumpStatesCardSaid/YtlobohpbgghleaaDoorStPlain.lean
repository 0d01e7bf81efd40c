import Derived.Test.YtlobohpbgghleaaDoorDumpBack
namespace Go.Proofs.YtlobohpbgghleaaDoor

/-! ## states of orders, plainly -/

structure Ln where
  item : Int
  price : Int
  qty : Int
  shipped : Int

structure St where
  order : Int
  status : Int
  prior : Int
  cur : Int
  tax : Int
  lines : List Ln
  paid : Int
  refunded : Int
  events : Int
  refused : Int
  stamp : Int
  who : List UInt8

theorem Ln.ext' {a b : Ln} (h0 : a.item = b.item) (h1 : a.price = b.price) (h2 : a.qty = b.qty) (h3 : a.shipped = b.shipped) : a = b := by
  cases a; cases b; simp at *; exact ⟨h0, h1, h2, h3⟩
theorem St.ext' {a b : St} (h0 : a.order = b.order) (h1 : a.status = b.status) (h2 : a.prior = b.prior) (h3 : a.cur = b.cur) (h4 : a.tax = b.tax) (h5 : a.lines = b.lines) (h6 : a.paid = b.paid)
    (h7 : a.refunded = b.refunded) (h8 : a.events = b.events) (h9 : a.refused = b.refused) (h10 : a.stamp = b.stamp) (h11 : a.who = b.who) : a = b := by
  cases a; cases b; simp at *; exact ⟨h0, h1, h2, h3, h4, h5, h6, h7, h8, h9, h10, h11⟩

def netOf (ls : List Ln) : Int := ls.foldl (fun n l => n + l.qty * l.price) 0
def dueOf (s : St) : Int := netOf s.lines + netOf s.lines * s.tax / 10000
def lnFine (l : Ln) : Bool := btw l.item 0 65535 && btw l.price 0 100000000 && btw l.qty 1 100000 && btw l.shipped 0 l.qty
def risen : Int → List Ln → Bool
  | _, [] => true
  | b, l :: ls => decide (b < l.item) && lnFine l && risen l.item ls
def linedB (ls : List Ln) : Bool := decide (ls.length ≤ 16) && risen (-1) ls
def namedB (who : List UInt8) : Bool := decide (who.length ≤ 16) && plainS who
def noneB (ls : List Ln) : Bool := ls.all fun l => l.shipped == 0
def wholeB (ls : List Ln) : Bool := ls.all fun l => l.shipped == l.qty
def boundedB (s : St) : Bool :=
  btw s.order 1 1099511627776 && (btw s.status 0 5 && (btw s.cur 0 3 && (btw s.tax 0 5000 && (linedB s.lines && (btw s.refunded 0 s.paid && (btw s.events 0 1099511627776 && (btw s.refused 0 s.events && (btw s.stamp 0 1099511627776 && namedB s.who))))))))
def standB (s : St) (at_ : Int) : Bool :=
  let full := s.paid == dueOf s && decide (0 < s.paid)
  if at_ = 0 then s.lines.isEmpty && s.cur == 0 && s.tax == 0 && s.events == s.refused && s.stamp == 0 && s.who.isEmpty
  else if at_ = 1 then noneB s.lines && !full && s.refunded == 0
  else if at_ = 3 then full && !wholeB s.lines
  else if at_ = 4 then full && wholeB s.lines
  else noneB s.lines
def validB (s : St) : Bool :=
  boundedB s && decide (s.paid ≤ dueOf s) && (if s.status = 2 then (s.prior == 1 || s.prior == 3) && standB s s.prior else s.prior == 0 && standB s s.status)

/-! ## the net -/

theorem net_snoc (ls : List Ln) (l : Ln) : netOf (ls ++ [l]) = netOf ls + l.qty * l.price := by simp [netOf]

/-! ## the line -/

def statusW : List (List UInt8) := [[110, 111, 110, 101], [111, 112, 101, 110], [104, 101, 108, 100], [112, 97, 105, 100], [115, 101, 110, 116], [99, 97, 110, 99, 101, 108, 108, 101, 100]]
def statusOf (n : Int) : List UInt8 := statusW.getD n.toNat []
def stKeys (s : St) : List (List UInt8 × Int) :=
  [([99, 117, 114], s.cur), ([116, 97, 120], s.tax), ([112, 97, 105, 100], s.paid), ([114, 101, 102, 117, 110, 100, 101, 100], s.refunded), ([101, 118, 101, 110, 116, 115], s.events), ([114, 101, 102, 117, 115, 101, 100], s.refused), ([115, 116, 97, 109, 112], s.stamp)]
def keyParts (ks : List (List UInt8 × Int)) : List UInt8 := ks.flatMap fun k => keyPart k.1 k.2
def lnWord (l : Ln) : List UInt8 := Lib.itoa l.item ++ 58 :: (Lib.itoa l.price ++ 42 :: (Lib.itoa l.qty ++ 45 :: Lib.itoa l.shipped))
def lnParts (ls : List Ln) : List UInt8 := ls.flatMap fun l => 32 :: lnWord l
def stHead (s : St) : List UInt8 := [111, 114, 100, 101, 114, 32] ++ Lib.itoa s.order ++ [32] ++ statusOf s.status ++ (if s.status = 2 then 32 :: statusOf s.prior else [])
def stateOf (s : St) : List UInt8 := stHead s ++ keyParts (stKeys s) ++ whoPart s.who ++ lnParts s.lines

/-! ## as words -/

def keyWords (ks : List (List UInt8 × Int)) : List (List UInt8) := ks.flatMap fun k => if k.2 = 0 then [] else [k.1 ++ 61 :: Lib.itoa k.2]
def whoWords (who : List UInt8) : List (List UInt8) := if who = [] then [] else [[119, 104, 111] ++ 61 :: who]
theorem blanked_keys (ks : List (List UInt8 × Int)) : blanked (keyWords ks) = keyParts ks := by
  induction ks with
  | nil => rfl
  | cons k ks ih =>
    rw [keyWords, keyParts, List.flatMap_cons, List.flatMap_cons, blanked_append]
    rw [keyWords, keyParts] at ih
    rw [ih]
    congr 1
    unfold keyPart
    split <;> simp [blanked]
theorem blanked_who (who : List UInt8) : blanked (whoWords who) = whoPart who := by
  unfold whoWords whoPart; split <;> simp [blanked]
theorem blanked_lns (ls : List Ln) : blanked (ls.map lnWord) = lnParts ls := by
  unfold blanked lnParts List.flatMap
  rw [List.map_map]; rfl
def stWords (s : St) : List (List UInt8) :=
  [111, 114, 100, 101, 114] :: Lib.itoa s.order :: statusOf s.status :: ((if s.status = 2 then [statusOf s.prior] else []) ++ (keyWords (stKeys s) ++ (whoWords s.who ++ s.lines.map lnWord)))
theorem stateOf_words (s : St) : stateOf s = joinBy 32 (stWords s) := by
  unfold stWords
  rw [joinBy_blanked]
  unfold stateOf stHead
  rw [← blanked_keys, ← blanked_who, ← blanked_lns]
  have e : ∀ (w : List UInt8) ws, blanked (w :: ws) = 32 :: w ++ blanked ws := fun w ws => by simp [blanked]
  rw [e, e, blanked_append, blanked_append, blanked_append]
  split <;> simp [blanked]

theorem itoa_digs (n : Int) : ∀ c ∈ Lib.itoa n, isDig c ∨ c.toNat = 45 := by
  intro c hc
  unfold Lib.itoa at hc
  split at hc
  · rcases List.mem_cons.1 hc with rfl | hc
    · exact .inr rfl
    · exact .inl (decDigits_digs _ c hc)
  · exact .inl (decDigits_digs _ c hc)
theorem itoa_pos_digs {n : Int} (h : 0 ≤ n) : ∀ c ∈ Lib.itoa n, isDig c := by
  intro c hc
  unfold Lib.itoa at hc
  rw [if_neg (by omega)] at hc
  exact decDigits_digs _ c hc
theorem no_itoa {n : Int} {x : UInt8} (h : ¬ isDig x) (h45 : x.toNat ≠ 45) : x ∉ Lib.itoa n := fun hm => by
  rcases itoa_digs n x hm with hd | hd
  · exact h hd
  · exact h45 hd

theorem lnWord_inj {a b : Ln} (ha : 0 ≤ a.qty) (hb : 0 ≤ b.qty) (h : lnWord a = lnWord b) : a = b := by
  unfold lnWord at h
  have h58 : ∀ n : Int, (58 : UInt8) ∉ Lib.itoa n := fun n => no_itoa (by unfold isDig; decide) (by decide)
  have h42 : ∀ n : Int, (42 : UInt8) ∉ Lib.itoa n := fun n => no_itoa (by unfold isDig; decide) (by decide)
  have h45 : ∀ n : Int, 0 ≤ n → (45 : UInt8) ∉ Lib.itoa n := fun n hn hm => by
    have := itoa_pos_digs hn _ hm
    unfold isDig at this; exact absurd this (by decide)
  have k1 := cutAt_mk (c := 58) _ (Lib.itoa a.price ++ 42 :: (Lib.itoa a.qty ++ 45 :: Lib.itoa a.shipped)) (h58 a.item)
  rw [h, cutAt_mk (c := 58) _ _ (h58 b.item)] at k1
  simp only [Option.some.injEq, Prod.mk.injEq] at k1
  have k2 := cutAt_mk (c := 42) _ (Lib.itoa a.qty ++ 45 :: Lib.itoa a.shipped) (h42 a.price)
  rw [← k1.2, cutAt_mk (c := 42) _ _ (h42 b.price)] at k2
  simp only [Option.some.injEq, Prod.mk.injEq] at k2
  have k3 := cutAt_mk (c := 45) _ (Lib.itoa a.shipped) (h45 a.qty ha)
  rw [← k2.2, cutAt_mk (c := 45) _ _ (h45 b.qty hb)] at k3
  simp only [Option.some.injEq, Prod.mk.injEq] at k3
  exact Ln.ext' (itoa_inj k1.1.symm) (itoa_inj k2.1.symm) (itoa_inj k3.1.symm) (itoa_inj k3.2.symm)
theorem lnWords_inj : ∀ {as bs : List Ln}, (∀ l ∈ as, 0 ≤ l.qty) → (∀ l ∈ bs, 0 ≤ l.qty) → as.map lnWord = bs.map lnWord → as = bs
  | [], [], _, _, _ => rfl
  | [], _ :: _, _, _, h => by simp at h
  | _ :: _, [], _, _, h => by simp at h
  | a :: as, b :: bs, ha, hb, h => by
    simp only [List.map_cons, List.cons.injEq] at h
    rw [lnWord_inj (ha a (by simp)) (hb b (by simp)) h.1, lnWords_inj (fun l hl => ha l (by simp [hl])) (fun l hl => hb l (by simp [hl])) h.2]

/-- the tag of a word: what stands ahead of its '=' -/
def tagOf (w : List UInt8) : Option (List UInt8) := (cutAt 61 w).map (·.1)
theorem tagOf_mk {t v : List UInt8} (h : (61 : UInt8) ∉ t) : tagOf (t ++ 61 :: v) = some t := by unfold tagOf; rw [cutAt_mk _ _ h]; rfl
theorem tagOf_ln (l : Ln) : tagOf (lnWord l) = none := by
  unfold tagOf
  rw [cutAt_none.2]; · rfl
  unfold lnWord
  have h61 : ∀ n : Int, (61 : UInt8) ∉ Lib.itoa n := fun n => no_itoa (by unfold isDig; decide) (by decide)
  simp [h61]
theorem keyWords_tags (ks : List (List UInt8 × Int)) (h : ∀ k ∈ ks, (61 : UInt8) ∉ k.1) : ∀ w ∈ keyWords ks, ∃ k ∈ ks, tagOf w = some k.1 := by
  intro w hw
  unfold keyWords at hw
  obtain ⟨k, hk, hw⟩ := List.mem_flatMap.1 hw
  split at hw
  · simp at hw
  · rw [List.mem_singleton.1 hw]; exact ⟨k, hk, tagOf_mk (h k hk)⟩

theorem keyWords_cons (k : List UInt8 × Int) (ks : List (List UInt8 × Int)) : keyWords (k :: ks) = (if k.2 = 0 then [] else [k.1 ++ 61 :: Lib.itoa k.2]) ++ keyWords ks := by simp [keyWords]
theorem keys_split : ∀ (as bs : List (List UInt8 × Int)) (X Y : List (List UInt8)), as.map (·.1) = bs.map (·.1) → (as.map (·.1)).Nodup → (∀ t ∈ as.map (·.1), (61 : UInt8) ∉ t) →
    (∀ w ∈ X, ∀ t ∈ as.map (·.1), tagOf w ≠ some t) → (∀ w ∈ Y, ∀ t ∈ as.map (·.1), tagOf w ≠ some t) → keyWords as ++ X = keyWords bs ++ Y → as = bs ∧ X = Y
  | [], [], X, Y, _, _, _, _, _, h => ⟨rfl, by simpa [keyWords] using h⟩
  | [], _ :: _, _, _, ht, _, _, _, _, _ => by simp at ht
  | _ :: _, [], _, _, ht, _, _, _, _, _ => by simp at ht
  | (t, a) :: as, (t', b) :: bs, X, Y, ht, hd, h61, hX, hY, h => by
    simp only [List.map_cons, List.cons.injEq] at ht
    obtain ⟨rfl, ht⟩ := ht
    have hd' := hd
    simp only [List.map_cons, List.nodup_cons] at hd
    have h61' : ∀ k ∈ as, (61 : UInt8) ∉ k.1 := fun k hk => h61 k.1 (by simp; exact .inr ⟨k.2, hk⟩)
    have h61b : ∀ k ∈ bs, (61 : UInt8) ∉ k.1 := fun k hk => h61 k.1 (by
      rw [List.map_cons, ht]; exact List.mem_cons_of_mem _ (List.mem_map_of_mem hk))
    have ih := keys_split as bs X Y ht hd.2 (fun t ht => h61 t (by rw [List.map_cons]; exact List.mem_cons_of_mem _ ht)) (fun w hw t ht => hX w hw t (by rw [List.map_cons]; exact List.mem_cons_of_mem _ ht)) (fun w hw t ht => hY w hw t (by rw [List.map_cons]; exact List.mem_cons_of_mem _ ht))
    have h61t : (61 : UInt8) ∉ t := h61 t (by simp)
    have nA : ∀ w ∈ keyWords as ++ X, tagOf w ≠ some t := fun w hw e => by
      rcases List.mem_append.1 hw with hw | hw
      · obtain ⟨k, hk, e'⟩ := keyWords_tags as h61' w hw
        rw [e'] at e
        exact hd.1 (by rw [← Option.some.inj e]; exact List.mem_map_of_mem hk)
      · exact hX w hw t (by simp) e
    have nB : ∀ w ∈ keyWords bs ++ Y, tagOf w ≠ some t := fun w hw e => by
      rcases List.mem_append.1 hw with hw | hw
      · obtain ⟨k, hk, e'⟩ := keyWords_tags bs h61b w hw
        rw [e'] at e
        exact hd.1 (by rw [ht, ← Option.some.inj e]; exact List.mem_map_of_mem hk)
      · exact hY w hw t (by simp) e
    rw [keyWords_cons, keyWords_cons] at h
    by_cases ha : a = 0
    · by_cases hb : b = 0
      · subst ha; subst hb
        obtain ⟨e1, e2⟩ := ih (by simpa using h)
        exact ⟨by rw [e1], e2⟩
      · subst ha
        simp only [if_true, if_neg hb, List.nil_append] at h
        exact absurd (tagOf_mk h61t) (nA (t ++ 61 :: Lib.itoa b) (by rw [h]; simp))
    · by_cases hb : b = 0
      · subst hb
        simp only [if_true, if_neg ha, List.nil_append] at h
        exact absurd (tagOf_mk h61t) (nB (t ++ 61 :: Lib.itoa a) (by rw [← h]; simp))
      · simp only [if_neg ha, if_neg hb, List.cons_append, List.nil_append, List.cons.injEq] at h
        obtain ⟨e1, e2⟩ := ih h.2
        have e3 : Lib.itoa a = Lib.itoa b := by
          have := List.append_cancel_left h.1
          simpa using this
        exact ⟨by rw [e1, itoa_inj e3], e2⟩

theorem who_split {a b : List UInt8} {X Y : List (List UInt8)} (hX : ∀ w ∈ X, tagOf w = none) (hY : ∀ w ∈ Y, tagOf w = none) (h : whoWords a ++ X = whoWords b ++ Y) : a = b ∧ X = Y := by
  unfold whoWords at h
  have ht : ∀ v : List UInt8, tagOf ([119, 104, 111] ++ 61 :: v) = some [119, 104, 111] := fun v => tagOf_mk (by decide)
  by_cases ha : a = []
  · by_cases hb : b = []
    · subst ha; subst hb; exact ⟨rfl, by simpa using h⟩
    · rw [if_pos ha, if_neg hb, List.nil_append] at h
      have := hX ([119, 104, 111] ++ 61 :: b) (by rw [h]; simp)
      rw [ht] at this; cases this
  · by_cases hb : b = []
    · rw [if_neg ha, if_pos hb, List.nil_append] at h
      have := hY ([119, 104, 111] ++ 61 :: a) (by rw [← h]; simp)
      rw [ht] at this; cases this
    · rw [if_neg ha, if_neg hb] at h
      simp only [List.cons_append, List.nil_append, List.cons.injEq] at h
      exact ⟨by simpa using h.1, h.2⟩

theorem statusOf_inj {a b : Int} (ha0 : 0 ≤ a) (ha : a ≤ 5) (hb0 : 0 ≤ b) (hb : b ≤ 5) (h : statusOf a = statusOf b) : a = b := by
  rcases (show a = 0 ∨ a = 1 ∨ a = 2 ∨ a = 3 ∨ a = 4 ∨ a = 5 by omega) with rfl | rfl | rfl | rfl | rfl | rfl <;>
  rcases (show b = 0 ∨ b = 1 ∨ b = 2 ∨ b = 3 ∨ b = 4 ∨ b = 5 by omega) with rfl | rfl | rfl | rfl | rfl | rfl <;> first | rfl | exact absurd h (by decide)
theorem statusOf_no32 (a : Int) : (32 : UInt8) ∉ statusOf a := by
  unfold statusOf
  rw [List.getD_eq_getElem?_getD]
  have h : ∀ t ∈ statusW, (32 : UInt8) ∉ t := by decide
  cases hx : statusW[a.toNat]? with
  | none => simp
  | some t => exact h t (List.mem_of_getElem? hx)

theorem risen_all : ∀ (ls : List Ln) (b : Int), risen b ls = true → ∀ l ∈ ls, lnFine l = true
  | [], _, _, _, h => by simp at h
  | l :: ls, b, h, x, hx => by
    simp only [risen, Bool.and_eq_true] at h
    rcases List.mem_cons.1 hx with rfl | hx
    · exact h.1.2
    · exact risen_all ls _ h.2 x hx

structure BoundedP (s : St) : Prop where
  order : 1 ≤ s.order ∧ s.order ≤ 1099511627776
  status : 0 ≤ s.status ∧ s.status ≤ 5
  cur : 0 ≤ s.cur ∧ s.cur ≤ 3
  tax : 0 ≤ s.tax ∧ s.tax ≤ 5000
  few : s.lines.length ≤ 16
  fine : ∀ l ∈ s.lines, lnFine l = true
  refunded : 0 ≤ s.refunded ∧ s.refunded ≤ s.paid
  events : 0 ≤ s.events ∧ s.events ≤ 1099511627776
  refused : 0 ≤ s.refused ∧ s.refused ≤ s.events
  stamp : 0 ≤ s.stamp ∧ s.stamp ≤ 1099511627776
  short : s.who.length ≤ 16
  plain : plainS s.who = true
theorem bounded_p {s : St} (h : boundedB s = true) : BoundedP s := by
  unfold boundedB linedB namedB at h
  simp only [Bool.and_eq_true, decide_eq_true_eq] at h
  obtain ⟨h1, h2, h3, h4, ⟨h5, h6⟩, h7, h8, h9, h10, h11, h12⟩ := h
  simp only [btw, Bool.and_eq_true, decide_eq_true_eq] at h1 h2 h3 h4 h7 h8 h9 h10
  exact ⟨h1, h2, h3, h4, h5, risen_all _ _ h6, h7, h8, h9, h10, h11, h12⟩
theorem valid_bounded {s : St} (h : validB s = true) : boundedB s = true := by
  unfold validB at h
  simp only [Bool.and_eq_true] at h
  exact h.1.1
theorem valid_prior {s : St} (h : validB s = true) : (s.status = 2 → s.prior = 1 ∨ s.prior = 3) ∧ (s.status ≠ 2 → s.prior = 0) := by
  unfold validB at h
  simp only [Bool.and_eq_true] at h
  have := h.2
  constructor
  · intro e
    rw [if_pos e] at this
    simp only [Bool.and_eq_true, Bool.or_eq_true, beq_iff_eq] at this
    exact this.1
  · intro e
    rw [if_neg e] at this
    simp only [Bool.and_eq_true, beq_iff_eq] at this
    exact this.1

theorem stWords_no32 {s : St} (h : BoundedP s) : ∀ w ∈ stWords s, (32 : UInt8) ∉ w := by
  have hi := itoa_no32
  intro w hw
  unfold stWords at hw
  simp only [List.mem_cons, List.mem_append] at hw
  rcases hw with rfl | rfl | rfl | hw | hw | hw | hw
  · decide
  · exact hi _
  · exact statusOf_no32 _
  · split at hw
    · rw [List.mem_singleton.1 hw]; exact statusOf_no32 _
    · simp at hw
  · unfold keyWords at hw
    obtain ⟨k, hk, hw⟩ := List.mem_flatMap.1 hw
    split at hw
    · simp at hw
    · rw [List.mem_singleton.1 hw]
      have hk1 : (32 : UInt8) ∉ k.1 := by
        simp only [stKeys, List.mem_cons, List.not_mem_nil, or_false] at hk
        rcases hk with rfl | rfl | rfl | rfl | rfl | rfl | rfl <;> simp
      simp [hk1, hi]
  · unfold whoWords at hw
    split at hw
    · simp at hw
    · rw [List.mem_singleton.1 hw]
      have : (32 : UInt8) ∉ s.who := fun hm => (plainS_chars h.plain 32 hm).1 rfl
      simp [this]
  · obtain ⟨l, _, rfl⟩ := List.mem_map.1 hw
    simp [lnWord, hi]

theorem state_inj {s t : St} (hs : validB s = true) (ht : validB t = true) (h : stateOf s = stateOf t) : s = t := by
  have bs := bounded_p (valid_bounded hs)
  have bt := bounded_p (valid_bounded ht)
  have hw : stWords s = stWords t := by
    rw [stateOf_words, stateOf_words] at h
    have e := congrArg (splitOn 32) h
    rwa [split_join _ (by simp [stWords]) (stWords_no32 bs), split_join _ (by simp [stWords]) (stWords_no32 bt)] at e
  unfold stWords at hw
  simp only [List.cons.injEq, true_and] at hw
  obtain ⟨h1, h2, h3⟩ := hw
  have e1 := itoa_inj h1
  have e2 := statusOf_inj bs.status.1 bs.status.2 bt.status.1 bt.status.2 h2
  have ps := valid_prior hs
  have pt := valid_prior ht
  have e3 : s.prior = t.prior ∧ keyWords (stKeys s) ++ (whoWords s.who ++ s.lines.map lnWord) = keyWords (stKeys t) ++ (whoWords t.who ++ t.lines.map lnWord) := by
    by_cases hh : s.status = 2
    · have hh' : t.status = 2 := by omega
      rw [if_pos hh, if_pos hh'] at h3
      simp only [List.cons_append, List.nil_append, List.cons.injEq] at h3
      have a := ps.1 hh
      have b := pt.1 hh'
      exact ⟨statusOf_inj (by omega) (by omega) (by omega) (by omega) h3.1, h3.2⟩
    · have hh' : t.status ≠ 2 := by omega
      rw [if_neg hh, if_neg hh'] at h3
      exact ⟨by rw [ps.2 hh, pt.2 hh'], by simpa using h3⟩
  obtain ⟨e3, h4⟩ := e3
  have hl : ∀ ls : List Ln, ∀ w ∈ ls.map lnWord, tagOf w = none := fun ls w hw => by
    obtain ⟨l, _, rfl⟩ := List.mem_map.1 hw; exact tagOf_ln l
  have hwho : ∀ (who : List UInt8) (ls : List Ln), ∀ w ∈ whoWords who ++ ls.map lnWord, ∀ t ∈ (stKeys s).map (·.1), tagOf w ≠ some t := fun who ls w hw t ht => by
    rcases List.mem_append.1 hw with hw | hw
    · unfold whoWords at hw
      split at hw
      · simp at hw
      · rw [List.mem_singleton.1 hw, tagOf_mk (by decide)]
        rintro ⟨⟩
        revert ht; simp [stKeys]
    · rw [hl _ w hw]; simp
  obtain ⟨e4, h5⟩ := keys_split (stKeys s) (stKeys t) _ _ (by rfl) (by simp [stKeys]) (by simp [stKeys]) (hwho s.who s.lines) (hwho t.who t.lines) h4
  obtain ⟨e5, h6⟩ := who_split (hl _) (hl _) h5
  have hq : ∀ {s : St}, BoundedP s → ∀ l ∈ s.lines, 0 ≤ l.qty := fun b l hl => by
    have := b.fine l hl
    simp only [lnFine, btw, Bool.and_eq_true, decide_eq_true_eq] at this
    omega
  have e6 := lnWords_inj (hq bs) (hq bt) h6
  simp only [stKeys, List.cons.injEq, Prod.mk.injEq, true_and, and_true] at e4
  obtain ⟨k1, k2, k3, k4, k5, k6, k7⟩ := e4
  exact St.ext' e1 e2 e3 k1 k2 e6 k3 k4 k5 k6 k7 e5

end Go.Proofs.YtlobohpbgghleaaDoor
