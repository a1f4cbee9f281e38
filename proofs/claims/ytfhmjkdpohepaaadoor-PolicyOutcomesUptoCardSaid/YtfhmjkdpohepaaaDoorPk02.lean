import Init
/- Numbers of few digits: plain. -/
set_option linter.unusedSimpArgs false
set_option linter.unusedVariables false
namespace Go.Proofs.YtfhmjkdpohepaaaDoor
/-- the shortest form of n over ten to the power s, n from 0 on -/
def shU : Nat → Nat → Nat × Nat
  | 0, n => (n, 0)
  | s + 1, n => if n % 10 = 0 then shU s (n / 10) else (n, s + 1)
theorem shU_zero (n : Nat) : shU 0 n = (n, 0) := rfl
theorem shU_cut (s n : Nat) (h : n % 10 = 0) : shU (s + 1) n = shU s (n / 10) := by
  show (if n % 10 = 0 then _ else _) = _
  rw [if_pos h]
theorem shU_stop (s n : Nat) (h : n % 10 ≠ 0) : shU (s + 1) n = (n, s + 1) := by
  show (if n % 10 = 0 then _ else _) = _
  rw [if_neg h]
theorem shU_le (s : Nat) : ∀ n, (shU s n).1 ≤ n ∧ (shU s n).2 ≤ s := by
  induction s with
  | zero => intro n; exact ⟨Nat.le_refl _, Nat.le_refl _⟩
  | succ s ih =>
    intro n
    by_cases h : n % 10 = 0
    · rw [shU_cut s n h]
      have := ih (n / 10)
      omega
    · rw [shU_stop s n h]
      exact ⟨Nat.le_refl _, Nat.le_refl _⟩
theorem shU_fix (s n : Nat) : shU s n = (n, s) ↔ (s = 0 ∨ n % 10 ≠ 0) := by
  cases s with
  | zero => simp [shU_zero]
  | succ s =>
    by_cases h : n % 10 = 0
    · rw [shU_cut s n h]
      simp [h]
      intro h1
      have := (shU_le s (n / 10)).2
      rw [h1] at this
      simp at this
      omega
    · simp [shU_stop s n h, h]
theorem shU_val (s : Nat) : ∀ n, (shU s n).1 * 10 ^ (s - (shU s n).2) = n := by
  induction s with
  | zero => intro n; simp [shU_zero]
  | succ s ih =>
    intro n
    by_cases h : n % 10 = 0
    · rw [shU_cut s n h]
      have h1 := (shU_le s (n / 10)).2
      have h2 := ih (n / 10)
      rw [show s + 1 - (shU s (n / 10)).2 = (s - (shU s (n / 10)).2) + 1 by omega, Nat.pow_succ, ← Nat.mul_assoc, h2]
      omega
    · simp [shU_stop s n h]
/-- the sign of a number, times another -/
def sgn (m : Bool) (n : Nat) : Int := if m then -(n : Int) else (n : Int)
def maxCoef : Nat := 999999999999
/-- is n over ten to the power s a number in its shortest form? -/
def decSnd (n s : Int) : Bool := decide (0 ≤ s ∧ s ≤ 6 ∧ -999999999999 ≤ n ∧ n ≤ 999999999999 ∧ (s = 0 ∨ n % 10 ≠ 0))
/-- may n, s be made a number? -/
def decIn (n s : Int) : Bool := decide (0 ≤ s ∧ s ≤ 6 ∧ -999999999999 ≤ n ∧ n ≤ 999999999999)
def mkN (n s : Int) : Int := sgn (decide (n < 0)) (shU s.toNat n.natAbs).1
def mkS (n s : Int) : Int := (shU s.toNat n.natAbs).2
theorem decSnd_in {n s : Int} (h : decSnd n s = true) : decIn n s = true := by
  simp [decSnd] at h; simp [decIn]; omega
theorem decIn_of {n s : Int} (h : decIn n s = true) : 0 ≤ s ∧ s ≤ 6 ∧ -999999999999 ≤ n ∧ n ≤ 999999999999 := by simpa [decIn] using h
theorem decSnd_of {n s : Int} (h : decSnd n s = true) : 0 ≤ s ∧ s ≤ 6 ∧ -999999999999 ≤ n ∧ n ≤ 999999999999 ∧ (s = 0 ∨ n % 10 ≠ 0) := by simpa [decSnd] using h
theorem decIn_snd {n s : Int} (h : decIn n s = true) : decSnd n s = (mkN n s == n && mkS n s == s) := by
  have hi := decIn_of h
  have hf := shU_fix s.toNat n.natAbs
  have hl := shU_le s.toNat n.natAbs
  rw [Bool.eq_iff_iff]
  constructor
  · intro h1
    have h2 := decSnd_of h1
    have := hf.2 (by omega)
    simp [mkN, mkS, this, sgn]
    by_cases hn : n < 0 <;> simp [hn] <;> omega
  · intro h1
    simp only [Bool.and_eq_true, beq_iff_eq, mkN, mkS, sgn] at h1
    have h3 : shU s.toNat n.natAbs = (n.natAbs, s.toNat) := by
      apply Prod.ext
      · by_cases hn : n < 0 <;> simp [hn] at h1 <;> simp <;> omega
      · simp; omega
    have h4 := hf.1 h3
    simp [decSnd]
    omega
theorem not_decIn_snd {n s : Int} (h : decIn n s = false) : decSnd n s = false := by
  cases hs : decSnd n s
  · rfl
  · rw [decSnd_in hs] at h; cases h
/-- -1, 0 or 1 -/
def cmpI (x y : Int) : Int := if x < y then -1 else if y < x then 1 else 0
/-- a number in units of the finest scale -/
def unitsI (n s : Int) : Int := n * 10 ^ (6 - s.toNat)
def cmpD (n s n' s' : Int) : Int := cmpI (unitsI n s) (unitsI n' s')

/-- a digit -/
def dig (x i : Nat) : Nat := x / 10 ^ i % 10
def lessD (a b : Nat → Nat) : Nat → Bool
  | 0 => false
  | k + 1 => if a k = b k then lessD a b k else decide (a k < b k)
theorem lessD_eq (x y k : Nat) : lessD (dig x) (dig y) k = decide (x % 10 ^ k < y % 10 ^ k) := by
  induction k with
  | zero => simp [lessD, Nat.mod_one]
  | succ k ih =>
    have hx := Nat.mod_pow_succ (x := x) (b := 10) (k := k)
    have hy := Nat.mod_pow_succ (x := y) (b := 10) (k := k)
    have lx : x % 10 ^ k < 10 ^ k := Nat.mod_lt _ (Nat.pow_pos (by omega))
    have ly : y % 10 ^ k < 10 ^ k := Nat.mod_lt _ (Nat.pow_pos (by omega))
    show (if dig x k = dig y k then _ else _) = _
    rw [ih, hx, hy]
    unfold dig
    generalize x / 10 ^ k % 10 = a
    generalize y / 10 ^ k % 10 = b
    generalize 10 ^ k = p at *
    generalize x % p = x' at *
    generalize y % p = y' at *
    by_cases h : a = b
    · subst h
      rw [if_pos rfl, decide_eq_decide]
      omega
    · rw [if_neg h, decide_eq_decide]
      constructor
      · intro hlt
        have : p * (a + 1) ≤ p * b := Nat.mul_le_mul_left p hlt
        rw [Nat.mul_add] at this
        omega
      · intro hlt
        by_cases hab : a < b
        · exact hab
        · have : p * (b + 1) ≤ p * a := Nat.mul_le_mul_left p (by omega)
          rw [Nat.mul_add] at this
          omega
theorem dig_shift (n e j : Nat) : dig (n * 10 ^ e) j = if j < e then 0 else dig n (j - e) := by
  unfold dig
  by_cases h : j < e
  · rw [if_pos h]
    obtain ⟨d, rfl⟩ : ∃ d, e = j + (d + 1) := ⟨e - j - 1, by omega⟩
    rw [Nat.pow_add, ← Nat.mul_assoc, Nat.mul_right_comm, Nat.mul_div_cancel _ (Nat.pow_pos (by omega)), Nat.pow_succ, ← Nat.mul_assoc]
    omega
  · rw [if_neg h]
    obtain ⟨d, rfl⟩ : ∃ d, j = e + d := ⟨j - e, by omega⟩
    rw [Nat.pow_add, ← Nat.div_div_eq_div_mul, Nat.mul_div_cancel _ (Nat.pow_pos (by omega)), Nat.add_sub_cancel_left]
theorem dig_out (n i k : Nat) (h : n < 10 ^ k) (hi : k ≤ i) : dig n i = 0 := by
  unfold dig
  rw [Nat.div_eq_of_lt (Nat.lt_of_lt_of_le h (Nat.pow_le_pow_right (by omega) hi))]
/-- the row that 'long' makes -/
def longF (n s : Nat) (j : Nat) : Nat := if 12 - s ≤ j ∧ j < 24 - s then dig n (j - (12 - s)) else 0
theorem longF_eq (n s j : Nat) (h : n < 10 ^ 12) (hs : s ≤ 6) : longF n s j = dig (n * 10 ^ (12 - s)) j := by
  rw [dig_shift]
  unfold longF
  by_cases h1 : j < 12 - s
  · rw [if_pos h1, if_neg (by omega)]
  · rw [if_neg h1]
    by_cases h2 : j < 24 - s
    · rw [if_pos ⟨by omega, h2⟩]
    · rw [if_neg (by omega), dig_out n _ 12 h (by omega)]
theorem lessD_congr {a b a' b' : Nat → Nat} {k : Nat} (ha : ∀ j, j < k → a j = a' j) (hb : ∀ j, j < k → b j = b' j) : lessD a b k = lessD a' b' k := by
  induction k with
  | zero => rfl
  | succ k ih =>
    show (if a k = b k then _ else _) = (if a' k = b' k then _ else _)
    rw [ih (fun j hj => ha j (by omega)) (fun j hj => hb j (by omega)), ha k (by omega), hb k (by omega)]
theorem shift_lt (n s : Nat) (h : n < 10 ^ 12) : n * 10 ^ (12 - s) < 10 ^ 60 := by
  have h1 : 10 ^ (12 - s) ≤ 10 ^ 12 := Nat.pow_le_pow_right (by omega) (by omega)
  calc n * 10 ^ (12 - s) < 10 ^ 12 * 10 ^ (12 - s) := Nat.mul_lt_mul_of_pos_right h (Nat.pow_pos (by omega))
    _ ≤ 10 ^ 12 * 10 ^ 12 := Nat.mul_le_mul_left _ h1
    _ ≤ 10 ^ 60 := by decide
theorem less_long (n s n' s' : Nat) (h : n < 10 ^ 12) (h' : n' < 10 ^ 12) (hs : s ≤ 6) (hs' : s' ≤ 6) :
    lessD (longF n s) (longF n' s') 60 = decide (n * 10 ^ (6 - s) < n' * 10 ^ (6 - s')) := by
  rw [lessD_congr (fun j _ => longF_eq n s j h hs) (fun j _ => longF_eq n' s' j h' hs'), lessD_eq, Nat.mod_eq_of_lt (shift_lt n s h), Nat.mod_eq_of_lt (shift_lt n' s' h')]
  rw [decide_eq_decide, show 12 - s = (6 - s) + 6 by omega, show 12 - s' = (6 - s') + 6 by omega, Nat.pow_add, Nat.pow_add, ← Nat.mul_assoc, ← Nat.mul_assoc]
  omega
theorem unitsI_abs (n s : Int) : unitsI n s = (if n < 0 then -1 else 1) * ((n.natAbs * 10 ^ (6 - s.toNat) : Nat) : Int) := by
  unfold unitsI
  have hp : ((10 ^ (6 - s.toNat) : Nat) : Int) = (10 : Int) ^ (6 - s.toNat) := by norm_cast
  rw [Int.natCast_mul, hp, ← Int.mul_assoc]
  congr 1
  by_cases h : n < 0 <;> simp [h] <;> omega
/-- what soffitref01.Compare comes to -/
def refCmp (n s n' s' : Int) : Int :=
  if n < 0 ∧ 0 ≤ n' then -1 else if 0 ≤ n ∧ n' < 0 then 1 else
  if lessD (longF n.natAbs s.toNat) (longF n'.natAbs s'.toNat) 60 = true then (if n < 0 then 1 else -1)
  else if lessD (longF n'.natAbs s'.toNat) (longF n.natAbs s.toNat) 60 = true then (if n < 0 then -1 else 1) else 0
theorem refCmp_eq {n s n' s' : Int} (h : decSnd n s = true) (h' : decSnd n' s' = true) : refCmp n s n' s' = cmpD n s n' s' := by
  obtain ⟨a1, a2, a3, a4, -⟩ := decSnd_of h
  obtain ⟨b1, b2, b3, b4, -⟩ := decSnd_of h'
  have e1 := less_long n.natAbs s.toNat n'.natAbs s'.toNat (by omega) (by omega) (by omega) (by omega)
  have e2 := less_long n'.natAbs s'.toNat n.natAbs s.toNat (by omega) (by omega) (by omega) (by omega)
  unfold refCmp cmpD cmpI
  rw [e1, e2, unitsI_abs, unitsI_abs]
  have p1 : 0 < 10 ^ (6 - s.toNat) := Nat.pow_pos (by omega)
  have p2 : 0 < 10 ^ (6 - s'.toNat) := Nat.pow_pos (by omega)
  have z1 : 0 < n.natAbs → 0 < n.natAbs * 10 ^ (6 - s.toNat) := fun h => Nat.mul_pos h p1
  have z2 : 0 < n'.natAbs → 0 < n'.natAbs * 10 ^ (6 - s'.toNat) := fun h => Nat.mul_pos h p2
  generalize n.natAbs * 10 ^ (6 - s.toNat) = x at *
  generalize n'.natAbs * 10 ^ (6 - s'.toNat) = y at *
  by_cases hn : n < 0 <;> by_cases hn' : n' < 0 <;> simp only [hn, hn', if_true, if_false, decide_eq_true_eq, true_and, false_and, and_true, and_false, show (0 ≤ n') = ¬ (n' < 0) by simp, show (0 ≤ n) = ¬ (n < 0) by simp, not_true, not_false_iff] <;> (repeat' split) <;> omega
end Go.Proofs.YtfhmjkdpohepaaaDoor

/- Adding and taking away digit by digit: plain. -/
set_option linter.unusedSimpArgs false
set_option linter.unusedVariables false
namespace Go.Proofs.YtfhmjkdpohepaaaDoor

/-- what is carried to a place -/
def carry (x y k : Nat) : Nat := (x % 10 ^ k + y % 10 ^ k) / 10 ^ k
theorem carry_zero (x y : Nat) : carry x y 0 = 0 := by unfold carry; simp [Nat.mod_one]
theorem add_step (x y k : Nat) : dig (x + y) k = (dig x k + dig y k + carry x y k) % 10 ∧ carry x y (k + 1) = (dig x k + dig y k + carry x y k) / 10 := by
  have hp : 0 < 10 ^ k := Nat.pow_pos (by omega)
  have hx := Nat.mod_pow_succ (x := x) (b := 10) (k := k)
  have hy := Nat.mod_pow_succ (x := y) (b := 10) (k := k)
  have ex := Nat.div_add_mod x (10 ^ k)
  have ey := Nat.div_add_mod y (10 ^ k)
  unfold dig carry
  rw [hx, hy, Nat.pow_succ]
  generalize 10 ^ k = p at *
  have e1 : (x + y) / p = (x % p + y % p) / p + (x / p + y / p) := by
    have : x + y = (x % p + y % p) + p * (x / p + y / p) := by rw [Nat.mul_add]; omega
    rw [this, Nat.add_mul_div_left _ _ hp]
  have e2 : (x % p + p * (x / p % 10) + (y % p + p * (y / p % 10))) / (p * 10) = ((x % p + y % p) / p + (x / p % 10 + y / p % 10)) / 10 := by
    have : x % p + p * (x / p % 10) + (y % p + p * (y / p % 10)) = (x % p + y % p) + p * (x / p % 10 + y / p % 10) := by rw [Nat.mul_add]; omega
    rw [this, ← Nat.div_div_eq_div_mul, Nat.add_mul_div_left _ _ hp]
  rw [e1, e2]
  constructor <;> omega
/-- what is borrowed at a place -/
def borrow (x y k : Nat) : Nat := if x % 10 ^ k < y % 10 ^ k then 1 else 0
theorem borrow_zero (x y : Nat) : borrow x y 0 = 0 := by unfold borrow; simp [Nat.mod_one]
theorem sub_step (x y k : Nat) (h : y ≤ x) :
    ((dig (x - y) k : Nat) : Int) = (if (dig x k : Int) - dig y k - borrow x y k < 0 then (dig x k : Int) - dig y k - borrow x y k + 10 else (dig x k : Int) - dig y k - borrow x y k) ∧
    borrow x y (k + 1) = (if (dig x k : Int) - dig y k - borrow x y k < 0 then 1 else 0) := by
  have hp : 0 < 10 ^ k := Nat.pow_pos (by omega)
  have hx := Nat.mod_pow_succ (x := x) (b := 10) (k := k)
  have hy := Nat.mod_pow_succ (x := y) (b := 10) (k := k)
  have ex := Nat.div_add_mod x (10 ^ k)
  have ey := Nat.div_add_mod y (10 ^ k)
  have lx : x % 10 ^ k < 10 ^ k := Nat.mod_lt _ hp
  have ly : y % 10 ^ k < 10 ^ k := Nat.mod_lt _ hp
  unfold dig borrow
  rw [hx, hy]
  generalize 10 ^ k = p at *
  obtain ⟨u, hu⟩ : ∃ u, x % p = u := ⟨_, rfl⟩
  obtain ⟨v, hv⟩ : ∃ v, y % p = v := ⟨_, rfl⟩
  obtain ⟨X, hX⟩ : ∃ X, x / p = X := ⟨_, rfl⟩
  obtain ⟨Y, hY⟩ : ∃ Y, y / p = Y := ⟨_, rfl⟩
  rw [hu, hX] at ex
  rw [hv, hY] at ey
  rw [hu] at lx
  rw [hv] at ly
  rw [hu, hv, hX, hY]
  have key : (u + p * (X % 10) < v + p * (Y % 10)) ↔ (X % 10 < Y % 10 ∨ (X % 10 = Y % 10 ∧ u < v)) := by
    generalize X % 10 = a
    generalize Y % 10 = b
    constructor
    · intro hlt
      rcases Nat.lt_trichotomy a b with h1 | h1 | h1
      · exact .inl h1
      · subst h1; exact .inr ⟨rfl, by omega⟩
      · have := Nat.mul_le_mul_left p (show b + 1 ≤ a from h1)
        rw [Nat.mul_add] at this
        omega
    · rintro (h1 | ⟨rfl, h1⟩)
      · have := Nat.mul_le_mul_left p (show a + 1 ≤ b from h1)
        rw [Nat.mul_add] at this
        omega
      · omega
  by_cases huv : u < v
  · have hXY : Y + 1 ≤ X := by
      rcases Nat.lt_or_ge Y X with h1 | h1
      · exact h1
      · have := Nat.mul_le_mul_left p h1
        omega
    have e1 : (x - y) / p = X - Y - 1 := by
      have e2 : x - y = (u + p - v) + p * (X - Y - 1) := by
        obtain ⟨d, rfl⟩ : ∃ d, X = Y + 1 + d := ⟨X - (Y + 1), by omega⟩
        have e3 : Y + 1 + d - Y - 1 = d := by omega
        rw [e3]
        rw [Nat.mul_add, Nat.mul_add] at ex
        omega
      rw [e2, Nat.add_mul_div_left _ _ hp, Nat.div_eq_of_lt (by omega)]
      omega
    rw [e1, if_pos huv]
    constructor
    · split <;> omega
    · by_cases hk : X % 10 < Y % 10 ∨ (X % 10 = Y % 10 ∧ u < v)
      · rw [if_pos (key.2 hk), if_pos (by omega)]
      · rw [if_neg (fun h1 => hk (key.1 h1)), if_neg (by omega)]
  · have hXY : Y ≤ X := by
      rcases Nat.lt_or_ge X Y with h1 | h1
      · have := Nat.mul_le_mul_left p (show X + 1 ≤ Y from h1)
        rw [Nat.mul_add] at this
        omega
      · exact h1
    have e1 : (x - y) / p = X - Y := by
      have e2 : x - y = (u - v) + p * (X - Y) := by
        obtain ⟨d, rfl⟩ : ∃ d, X = Y + d := ⟨X - Y, by omega⟩
        have e3 : Y + d - Y = d := by omega
        rw [e3]
        rw [Nat.mul_add] at ex
        omega
      rw [e2, Nat.add_mul_div_left _ _ hp, Nat.div_eq_of_lt (by omega)]
      omega
    rw [e1, if_neg huv]
    constructor
    · split <;> omega
    · by_cases hk : X % 10 < Y % 10 ∨ (X % 10 = Y % 10 ∧ u < v)
      · rw [if_pos (key.2 hk), if_pos (by omega)]
      · rw [if_neg (fun h1 => hk (key.1 h1)), if_neg (by omega)]
theorem dig_part (m o i : Nat) : dig m (o + i) = dig (m / 10 ^ o) i := by unfold dig; rw [Nat.pow_add, ← Nat.div_div_eq_div_mul]
theorem fold_step (V i : Nat) : V / 10 ^ (i + 1) * 10 + dig V i = V / 10 ^ i := by
  unfold dig
  rw [Nat.pow_succ, ← Nat.div_div_eq_div_mul]
  omega
/-- the zeros that 'dec' strips -/
theorem shU_part (m : Nat) : ∀ o, o ≤ 6 → m % 10 ^ o = 0 → shU 6 m = shU (6 - o) (m / 10 ^ o)
  | 0, _, _ => by simp
  | o + 1, ho, h => by
    have h1 := Nat.mod_pow_succ (x := m) (b := 10) (k := o)
    rw [h] at h1
    have h2 : m % 10 ^ o = 0 := by omega
    have hp : 0 < 10 ^ o := Nat.pow_pos (by omega)
    have h3 : m / 10 ^ o % 10 = 0 := by
      have h4 : 10 ^ o * (m / 10 ^ o % 10) = 0 := by omega
      rcases Nat.mul_eq_zero.1 h4 with h5 | h5
      · omega
      · exact h5
    rw [shU_part m o (by omega) h2, show 6 - o = (6 - (o + 1)) + 1 by omega, shU_cut _ _ h3, Nat.pow_succ, ← Nat.div_div_eq_div_mul]
theorem mod_step {m o : Nat} (h : m % 10 ^ o = 0) (hd : dig m o = 0) : m % 10 ^ (o + 1) = 0 := by
  rw [Nat.mod_pow_succ, h]
  unfold dig at hd
  rw [hd]; simp
theorem strip_end {m o : Nat} (ho : o ≤ 6) (h : m % 10 ^ o = 0) (he : o = 6 ∨ dig m o ≠ 0) : shU 6 m = (m / 10 ^ o, 6 - o) := by
  rw [shU_part m o ho h]
  rcases he with rfl | hd
  · exact shU_zero _
  · by_cases h6 : o = 6
    · subst h6; exact shU_zero _
    · rw [show 6 - o = (6 - o - 1) + 1 by omega, shU_stop _ _ hd]
end Go.Proofs.YtfhmjkdpohepaaaDoor
