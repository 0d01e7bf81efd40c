import Derived.Test.YtlobohpbgghleaaDoorNumPlain
namespace Go.Proofs.YtlobohpbgghleaaDoor

/-! ## long numbers: digits to the base 65536, the lowest first -/

def lval : List Nat → Nat
  | [] => 0
  | d :: l => d + 65536 * lval l
def Digs (l : List Nat) : Prop := l.length = 16 ∧ ∀ d ∈ l, d < 65536

theorem Digs.at {l : List Nat} (h : Digs l) (k : Nat) (hk : k < 16) : ∃ d, l[k]? = some d ∧ d < 65536 :=
  have hk' : k < l.length := by rw [h.1]; exact hk
  ⟨l[k], List.getElem?_eq_getElem hk', h.2 _ (List.getElem_mem hk')⟩
theorem Digs.set {l : List Nat} (h : Digs l) (k d : Nat) (hd : d < 65536) : Digs (l.set k d) :=
  ⟨by rw [List.length_set]; exact h.1, fun x hx => by
    rcases List.mem_or_eq_of_mem_set hx with h' | rfl
    · exact h.2 x h'
    · exact hd⟩
theorem digs_zero : Digs (List.replicate 16 0) := ⟨by simp, fun d hd => by rw [(List.mem_replicate.1 hd).2]; decide⟩
theorem lval_zero (n : Nat) : lval (List.replicate n 0) = 0 := by
  induction n with
  | zero => rfl
  | succ n ih => rw [List.replicate_succ, lval, ih]
theorem lval_lt : ∀ (l : List Nat), (∀ d ∈ l, d < 65536) → lval l < 65536 ^ l.length
  | [], _ => by simp [lval]
  | d :: l, h => by
    have h1 := lval_lt l fun x hx => h x (by simp [hx])
    have h2 := h d (by simp)
    rw [lval, List.length_cons, Nat.pow_succ]
    omega
theorem Digs.lt {l : List Nat} (h : Digs l) : lval l < 65536 ^ 16 := by have := lval_lt l h.2; rwa [h.1] at this
theorem lval_set : ∀ (l : List Nat) (k d e : Nat), l[k]? = some e → lval (l.set k d) + e * 65536 ^ k = lval l + d * 65536 ^ k
  | [], k, d, e, h => by simp at h
  | x :: l, 0, d, e, h => by
    simp at h; subst h
    simp [lval]; omega
  | x :: l, k + 1, d, e, h => by
    have := lval_set l k d e (by simpa using h)
    rw [List.set_cons_succ, lval, lval, Nat.pow_succ]
    have e1 : e * (65536 ^ k * 65536) = 65536 * (e * 65536 ^ k) := by rw [← Nat.mul_assoc, Nat.mul_comm]
    have e2 : d * (65536 ^ k * 65536) = 65536 * (d * 65536 ^ k) := by rw [← Nat.mul_assoc, Nat.mul_comm]
    rw [e1, e2]
    omega
theorem lval_take : ∀ (l : List Nat) (k e : Nat), l[k]? = some e → lval (l.take (k + 1)) = lval (l.take k) + e * 65536 ^ k
  | [], k, e, h => by simp at h
  | x :: l, 0, e, h => by
    simp at h; subst h
    simp [lval]
  | x :: l, k + 1, e, h => by
    have := lval_take l k e (by simpa using h)
    rw [List.take_succ_cons, List.take_succ_cons, lval, lval, this, Nat.pow_succ]
    have e1 : e * (65536 ^ k * 65536) = 65536 * (e * 65536 ^ k) := by rw [← Nat.mul_assoc, Nat.mul_comm]
    rw [e1]; omega
theorem lval_all {l : List Nat} (h : Digs l) : lval (l.take 16) = lval l := by rw [← h.1, List.take_length]
theorem lval_digit : ∀ (l : List Nat), (∀ d ∈ l, d < 65536) → ∀ (k e : Nat), l[k]? = some e → lval l / 65536 ^ k % 65536 = e
  | [], _, k, e, h => by simp at h
  | x :: l, hd, 0, e, h => by
    simp at h; subst h
    have := hd x (by simp)
    simp [lval]; omega
  | x :: l, hd, k + 1, e, h => by
    have ih := lval_digit l (fun d hx => hd d (by simp [hx])) k e (by simpa using h)
    have := hd x (by simp)
    rw [lval, Nat.pow_succ, Nat.mul_comm (65536 ^ k) 65536, ← Nat.div_div_eq_div_mul]
    have : (x + 65536 * lval l) / 65536 = lval l := by omega
    rw [this]; exact ih
theorem lval_eq : ∀ (a b : List Nat), a.length = b.length → (∀ d ∈ a, d < 65536) → (∀ d ∈ b, d < 65536) → lval a = lval b → a = b
  | [], [], _, _, _, _ => rfl
  | [], _ :: _, h, _, _, _ => by simp at h
  | _ :: _, [], h, _, _, _ => by simp at h
  | x :: a, y :: b, h, ha, hb, e => by
    have h1 := ha x (by simp)
    have h2 := hb y (by simp)
    rw [lval, lval] at e
    have e1 : x = y := by omega
    have e2 : lval a = lval b := by omega
    rw [e1, lval_eq a b (by simpa using h) (fun d hd => ha d (by simp [hd])) (fun d hd => hb d (by simp [hd])) e2]
/-- the higher digits decide -/
theorem lval_high : ∀ (a b : List Nat) (k x y : Nat), a.length = b.length → (∀ d ∈ a, d < 65536) → (∀ d ∈ b, d < 65536) → a.drop (k + 1) = b.drop (k + 1) → a[k]? = some x → b[k]? = some y → x < y → lval a < lval b
  | [], _, k, x, y, _, _, _, _, h, _, _ => by simp at h
  | _ :: _, [], k, x, y, hl, _, _, _, _, _, _ => by simp at hl
  | p :: a, q :: b, 0, x, y, hl, ha, hb, hd, hx, hy, h => by
    simp at hx hy hd; subst hx; subst hy; subst hd
    rw [lval, lval]; omega
  | p :: a, q :: b, k + 1, x, y, hl, ha, hb, hd, hx, hy, h => by
    have ih := lval_high a b k x y (by simpa using hl) (fun d hd => ha d (by simp [hd])) (fun d hd => hb d (by simp [hd])) (by simpa using hd) (by simpa using hx) (by simpa using hy) h
    have h1 := ha p (by simp)
    rw [lval, lval]; omega

/-! ## the steps of the sums -/

structure UpI (x y : List Nat) (k : Nat) (z : List Nat) (c : Nat) : Prop where
  digs : Digs z
  low : ∀ j, k ≤ j → j < 16 → z[j]? = some 0
  carry : c ≤ 1
  sum : lval z + c * 65536 ^ k = lval (x.take k) + lval (y.take k)
theorem upI_start (x y : List Nat) : UpI x y 0 (List.replicate 16 0) 0 := ⟨digs_zero, fun j _ h => by rw [List.getElem?_replicate, if_pos h], by decide, by simp [lval]⟩
theorem UpI.step {x y z : List Nat} {k c a b : Nat} (h : UpI x y k z c) (hk : k < 16) (ha : x[k]? = some a) (hb : y[k]? = some b) (ha' : a < 65536) (hb' : b < 65536) :
    UpI x y (k + 1) (z.set k ((a + b + c) % 65536)) ((a + b + c) / 65536) where
  digs := h.digs.set _ _ (Nat.mod_lt _ (by decide))
  low := fun j h1 h2 => by rw [List.getElem?_set_ne (by omega)]; exact h.low j (by omega) h2
  carry := by have := h.carry; omega
  sum := by
    have h1 := lval_set z k ((a + b + c) % 65536) 0 (h.low k (Nat.le_refl _) hk)
    have h2 := lval_take x k a ha
    have h3 := lval_take y k b hb
    have h4 := h.sum
    rw [h2, h3, Nat.pow_succ]
    generalize 65536 ^ k = P at *
    have e : (a + b + c) / 65536 * (P * 65536) + (a + b + c) % 65536 * P = a * P + b * P + c * P := by
      rw [← Nat.add_mul, ← Nat.add_mul, Nat.mul_comm P 65536, ← Nat.mul_assoc, ← Nat.add_mul]
      congr 1; omega
    omega
theorem UpI.done {x y z : List Nat} {c : Nat} (h : UpI x y 16 z c) (hx : Digs x) (hy : Digs y) (hlt : lval x + lval y < 65536 ^ 16) : lval z = lval x + lval y := by
  have h1 := h.sum
  rw [lval_all hx, lval_all hy] at h1
  have hc := h.carry
  rcases (show c = 0 ∨ c = 1 by omega) with rfl | rfl
  · omega
  · omega

structure DnI (x y : List Nat) (k : Nat) (z : List Nat) (c : Nat) : Prop where
  digs : Digs z
  low : ∀ j, k ≤ j → j < 16 → z[j]? = some 0
  carry : c ≤ 1
  sum : lval z + lval (y.take k) = lval (x.take k) + c * 65536 ^ k
theorem dnI_start (x y : List Nat) : DnI x y 0 (List.replicate 16 0) 0 := ⟨digs_zero, fun j _ h => by rw [List.getElem?_replicate, if_pos h], by decide, by simp [lval]⟩
theorem DnI.step {x y z : List Nat} {k c a b : Nat} (h : DnI x y k z c) (hk : k < 16) (ha : x[k]? = some a) (hb : y[k]? = some b) (ha' : a < 65536) (hb' : b < 65536) :
    DnI x y (k + 1) (z.set k ((a + 65536 - b - c) % 65536)) (1 - (a + 65536 - b - c) / 65536) where
  digs := h.digs.set _ _ (Nat.mod_lt _ (by decide))
  low := fun j h1 h2 => by rw [List.getElem?_set_ne (by omega)]; exact h.low j (by omega) h2
  carry := by omega
  sum := by
    have hc := h.carry
    have h1 := lval_set z k ((a + 65536 - b - c) % 65536) 0 (h.low k (Nat.le_refl _) hk)
    have h2 := lval_take x k a ha
    have h3 := lval_take y k b hb
    have h4 := h.sum
    rw [h2, h3, Nat.pow_succ]
    generalize 65536 ^ k = P at *
    have e : (a + 65536 - b - c) % 65536 * P + b * P + c * P = a * P + (1 - (a + 65536 - b - c) / 65536) * (P * 65536) := by
      rw [← Nat.add_mul, ← Nat.add_mul, Nat.mul_comm P 65536, ← Nat.mul_assoc, ← Nat.add_mul]
      congr 1; omega
    omega
theorem DnI.done {x y z : List Nat} {c : Nat} (h : DnI x y 16 z c) (hx : Digs x) (hy : Digs y) (hle : lval y ≤ lval x) : lval z = lval x - lval y := by
  have h1 := h.sum
  rw [lval_all hx, lval_all hy] at h1
  have hc := h.carry
  have hz := h.digs.lt
  rcases (show c = 0 ∨ c = 1 by omega) with rfl | rfl
  · omega
  · omega

/-- inside a product: z + c * B^p = W -/
structure MulI (W p : Nat) (z : List Nat) (c : Nat) : Prop where
  digs : Digs z
  carry : c ≤ 65535
  sum : lval z + c * 65536 ^ p = W
theorem MulI.step {W p c a b e : Nat} {z : List Nat} (h : MulI W p z c) (hz : z[p]? = some e) (ha' : a < 65536) (hb' : b < 65536) :
    MulI (W + a * b * 65536 ^ p) (p + 1) (z.set p ((e + a * b + c) % 65536)) ((e + a * b + c) / 65536) where
  digs := h.digs.set _ _ (Nat.mod_lt _ (by decide))
  carry := by
    have hc := h.carry
    have he := h.digs.2 e (List.mem_of_getElem? hz)
    have hm : a * b ≤ 65535 * 65535 := Nat.mul_le_mul (by omega) (by omega)
    omega
  sum := by
    have h1 := lval_set z p ((e + a * b + c) % 65536) e hz
    have h4 := h.sum
    rw [Nat.pow_succ]
    generalize 65536 ^ p = P at *
    generalize a * b = m at *
    have e1 : (e + m + c) % 65536 * P + (e + m + c) / 65536 * (P * 65536) = e * P + m * P + c * P := by
      rw [← Nat.add_mul, ← Nat.add_mul, Nat.mul_comm P 65536, ← Nat.mul_assoc, ← Nat.add_mul]
      congr 1; omega
    omega
theorem MulI.done {W p c : Nat} {z : List Nat} (h : MulI W p z c) (hp : c = 0 ∨ p = 16) (hW : W < 65536 ^ 16) : lval z = W := by
  have h1 := h.sum
  rcases hp with rfl | rfl
  · omega
  · rcases Nat.eq_zero_or_pos c with rfl | hc
    · omega
    · have : 65536 ^ 16 ≤ c * 65536 ^ 16 := Nat.le_mul_of_pos_left _ hc
      omega

/-! ## the division, bit by bit -/

structure DivI (X Y n : Nat) (q r : List Nat) : Prop where
  dq : Digs q
  dr : Digs r
  quo : lval q = X / 2 ^ n / Y * 2 ^ n
  rest : lval r = X / 2 ^ n % Y
theorem div_step (X Y b : Nat) (hY : 0 < Y) :
    (X / 2 ^ b % Y = if Y ≤ 2 * (X / 2 ^ (b + 1) % Y) + X / 2 ^ b % 2 then 2 * (X / 2 ^ (b + 1) % Y) + X / 2 ^ b % 2 - Y else 2 * (X / 2 ^ (b + 1) % Y) + X / 2 ^ b % 2) ∧
    (X / 2 ^ b / Y = 2 * (X / 2 ^ (b + 1) / Y) + if Y ≤ 2 * (X / 2 ^ (b + 1) % Y) + X / 2 ^ b % 2 then 1 else 0) := by
  have e : X / 2 ^ (b + 1) = X / 2 ^ b / 2 := by rw [Nat.pow_succ, Nat.div_div_eq_div_mul]
  rw [e]
  generalize X / 2 ^ b = A
  have h1 := Nat.div_add_mod (A / 2) Y
  have h2 := Nat.mod_lt (A / 2) hY
  have h3 : A = 2 * (A / 2) + A % 2 := by omega
  generalize hQ : A / 2 / Y = Q at *
  generalize hR : A / 2 % Y = R at *
  have h4 : A = Y * (2 * Q) + (2 * R + A % 2) := by
    have : Y * (2 * Q) = 2 * (Y * Q) := by rw [Nat.mul_left_comm]
    omega
  have h5 : A % 2 < 2 := Nat.mod_lt _ (by decide)
  by_cases hle : Y ≤ 2 * R + A % 2
  · rw [if_pos hle, if_pos hle]
    have h6 : A = Y * (2 * Q + 1) + (2 * R + A % 2 - Y) := by rw [Nat.mul_add, Nat.mul_one]; omega
    have h7 : 2 * R + A % 2 - Y < Y := by omega
    generalize 2 * R + A % 2 - Y = r at *
    subst h6
    exact ⟨by rw [Nat.mul_add_mod, Nat.mod_eq_of_lt h7], by rw [Nat.mul_add_div hY, Nat.div_eq_of_lt h7]⟩
  · rw [if_neg hle, if_neg hle]
    have h7 : 2 * R + A % 2 < Y := by omega
    generalize 2 * R + A % 2 = r at *
    subst h4
    exact ⟨by rw [Nat.mul_add_mod, Nat.mod_eq_of_lt h7], by rw [Nat.mul_add_div hY, Nat.div_eq_of_lt h7]⟩
theorem pow16 (b : Nat) : 2 ^ b = 65536 ^ (b / 16) * 2 ^ (b % 16) := by
  have : (65536 : Nat) = 2 ^ 16 := by decide
  rw [this, ← Nat.pow_mul, ← Nat.pow_add]
  congr 1; omega
theorem bit_of {x : List Nat} (h : ∀ d ∈ x, d < 65536) {b d : Nat} (hd : x[b / 16]? = some d) : d / 2 ^ (b % 16) % 2 = lval x / 2 ^ b % 2 := by
  have h1 := lval_digit x h _ _ hd
  rw [pow16 b, ← Nat.div_div_eq_div_mul]
  generalize lval x / 65536 ^ (b / 16) = A at *
  subst h1
  have : (65536 : Nat) = 2 ^ (b % 16) * (2 * 2 ^ (15 - b % 16)) := by
    have h16 : b % 16 < 16 := Nat.mod_lt _ (by decide)
    rw [← Nat.pow_succ', ← Nat.pow_add]
    rw [show b % 16 + (15 - b % 16).succ = 16 by omega]
  rw [this, Nat.mod_mul_right_div_self, Nat.mod_mul_right_mod]
theorem bit_room {q : List Nat} (h : ∀ d ∈ q, d < 65536) {b d M : Nat} (hd : q[b / 16]? = some d) (hq : lval q = M * 2 ^ (b + 1)) : d + 2 ^ (b % 16) < 65536 := by
  have h1 := lval_digit q h _ _ hd
  have h16 : b % 16 < 16 := Nat.mod_lt _ (by decide)
  have e : lval q / 65536 ^ (b / 16) = M * 2 ^ (b % 16 + 1) := by
    rw [hq, Nat.pow_succ, pow16 b, show M * (65536 ^ (b / 16) * 2 ^ (b % 16) * 2) = 65536 ^ (b / 16) * (M * 2 ^ (b % 16 + 1)) by rw [Nat.pow_succ]; simp only [Nat.mul_assoc, Nat.mul_left_comm]]
    exact Nat.mul_div_cancel_left _ (Nat.pow_pos (by decide))
  rw [e] at h1
  have e2 : (65536 : Nat) = 2 ^ (b % 16 + 1) * 2 ^ (15 - b % 16) := by
    rw [← Nat.pow_add, show b % 16 + 1 + (15 - b % 16) = 16 by omega]
  rw [e2, Nat.mul_comm M, Nat.mul_mod_mul_left] at h1
  have h3 : M % 2 ^ (15 - b % 16) + 1 ≤ 2 ^ (15 - b % 16) := Nat.mod_lt _ (Nat.pow_pos (by decide))
  have h4 := Nat.mul_le_mul_left (2 ^ (b % 16 + 1)) h3
  rw [← e2, Nat.mul_add, Nat.mul_one, h1] at h4
  have h5 : 2 ^ (b % 16 + 1) = 2 * 2 ^ (b % 16) := by rw [Nat.pow_succ]; omega
  have h6 : 0 < 2 ^ (b % 16) := Nat.pow_pos (by decide)
  omega

/-- the digits of a small number -/
def digsOf : Nat → Nat → List Nat
  | 0, _ => []
  | n + 1, u => u % 65536 :: digsOf n (u / 65536)
theorem lval_digsOf : ∀ (n u : Nat), lval (digsOf n u) = u % 65536 ^ n
  | 0, u => by simp [digsOf, lval, Nat.mod_one]
  | n + 1, u => by
    rw [digsOf, lval, lval_digsOf n, Nat.pow_succ, Nat.mul_comm (65536 ^ n), Nat.mod_mul]
theorem digsOf_length (n u : Nat) : (digsOf n u).length = n := by
  induction n generalizing u with
  | zero => rfl
  | succ n ih => rw [digsOf, List.length_cons, ih]
theorem digsOf_lt (n u : Nat) : ∀ d ∈ digsOf n u, d < 65536 := by
  induction n generalizing u with
  | zero => simp [digsOf]
  | succ n ih =>
    intro d hd
    rw [digsOf] at hd
    rcases List.mem_cons.1 hd with rfl | hd
    · exact Nat.mod_lt _ (by decide)
    · exact ih _ d hd

end Go.Proofs.YtlobohpbgghleaaDoor
