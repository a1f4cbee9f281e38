import Init
/- Numbers of few digits: plain. -/
set_option linter.unusedSimpArgs false
set_option linter.unusedVariables false
namespace Go.Proofs.YtankkadnhdfpfaaGreatDoor
def shU : Nat → Nat → Nat × Nat
  | 0, n => (n, 0)
  | s + 1, n => if n % 10 = 0 then shU s (n / 10) else (n, s + 1)
theorem shU_zero (n : Nat) : shU 0 n = (n, 0) := rfl
theorem shU_cut (s n : Nat) (h : n % 10 = 0) : shU (s + 1) n = shU s (n / 10) := by
  show (if n % 10 = 0 then _ else _) = _
  rw [if_pos h]
theorem shU_stop (s n : Nat) (h : n % 10 ≠ 0) : shU (s + 1) n = (n, s + 1) := by
  show (if n % 10 = 0 then _ else _) = _
  rw [if_neg h]
theorem shU_le (s : Nat) : ∀ n, (shU s n).1 ≤ n ∧ (shU s n).2 ≤ s := by
  induction s with
  | zero => intro n; exact ⟨Nat.le_refl _, Nat.le_refl _⟩
  | succ s ih =>
    intro n
    by_cases h : n % 10 = 0
    · rw [shU_cut s n h]
      have := ih (n / 10)
      omega
    · rw [shU_stop s n h]
      exact ⟨Nat.le_refl _, Nat.le_refl _⟩
theorem shU_fix (s n : Nat) : shU s n = (n, s) ↔ (s = 0 ∨ n % 10 ≠ 0) := by
  cases s with
  | zero => simp [shU_zero]
  | succ s =>
    by_cases h : n % 10 = 0
    · rw [shU_cut s n h]
      simp [h]
      intro h1
      have := (shU_le s (n / 10)).2
      rw [h1] at this
      simp at this
      omega
    · simp [shU_stop s n h, h]
theorem shU_val (s : Nat) : ∀ n, (shU s n).1 * 10 ^ (s - (shU s n).2) = n := by
  induction s with
  | zero => intro n; simp [shU_zero]
  | succ s ih =>
    intro n
    by_cases h : n % 10 = 0
    · rw [shU_cut s n h]
      have h1 := (shU_le s (n / 10)).2
      have h2 := ih (n / 10)
      rw [show s + 1 - (shU s (n / 10)).2 = (s - (shU s (n / 10)).2) + 1 by omega, Nat.pow_succ, ← Nat.mul_assoc, h2]
      omega
    · simp [shU_stop s n h]
def sgn (m : Bool) (n : Nat) : Int := if m then -(n : Int) else (n : Int)
def maxCoef : Nat := 999999999999
def decSnd (n s : Int) : Bool := decide (0 ≤ s ∧ s ≤ 6 ∧ -999999999999 ≤ n ∧ n ≤ 999999999999 ∧ (s = 0 ∨ n % 10 ≠ 0))
def decIn (n s : Int) : Bool := decide (0 ≤ s ∧ s ≤ 6 ∧ -999999999999 ≤ n ∧ n ≤ 999999999999)
def mkN (n s : Int) : Int := sgn (decide (n < 0)) (shU s.toNat n.natAbs).1
def mkS (n s : Int) : Int := (shU s.toNat n.natAbs).2
theorem decSnd_in {n s : Int} (h : decSnd n s = true) : decIn n s = true := by
  simp [decSnd] at h; simp [decIn]; omega
theorem decIn_of {n s : Int} (h : decIn n s = true) : 0 ≤ s ∧ s ≤ 6 ∧ -999999999999 ≤ n ∧ n ≤ 999999999999 := by simpa [decIn] using h
theorem decSnd_of {n s : Int} (h : decSnd n s = true) : 0 ≤ s ∧ s ≤ 6 ∧ -999999999999 ≤ n ∧ n ≤ 999999999999 ∧ (s = 0 ∨ n % 10 ≠ 0) := by simpa [decSnd] using h
theorem decIn_snd {n s : Int} (h : decIn n s = true) : decSnd n s = (mkN n s == n && mkS n s == s) := by
  have hi := decIn_of h
  have hf := shU_fix s.toNat n.natAbs
  have hl := shU_le s.toNat n.natAbs
  rw [Bool.eq_iff_iff]
  constructor
  · intro h1
    have h2 := decSnd_of h1
    have := hf.2 (by omega)
    simp [mkN, mkS, this, sgn]
    by_cases hn : n < 0 <;> simp [hn] <;> omega
  · intro h1
    simp only [Bool.and_eq_true, beq_iff_eq, mkN, mkS, sgn] at h1
    have h3 : shU s.toNat n.natAbs = (n.natAbs, s.toNat) := by
      apply Prod.ext
      · by_cases hn : n < 0 <;> simp [hn] at h1 <;> simp <;> omega
      · simp; omega
    have h4 := hf.1 h3
    simp [decSnd]
    omega
theorem not_decIn_snd {n s : Int} (h : decIn n s = false) : decSnd n s = false := by
  cases hs : decSnd n s
  · rfl
  · rw [decSnd_in hs] at h; cases h
def cmpI (x y : Int) : Int := if x < y then -1 else if y < x then 1 else 0
def unitsI (n s : Int) : Int := n * 10 ^ (6 - s.toNat)
def cmpD (n s n' s' : Int) : Int := cmpI (unitsI n s) (unitsI n' s')

def dig (x i : Nat) : Nat := x / 10 ^ i % 10
def lessD (a b : Nat → Nat) : Nat → Bool
  | 0 => false
  | k + 1 => if a k = b k then lessD a b k else decide (a k < b k)
theorem lessD_eq (x y k : Nat) : lessD (dig x) (dig y) k = decide (x % 10 ^ k < y % 10 ^ k) := by
  induction k with
  | zero => simp [lessD, Nat.mod_one]
  | succ k ih =>
    have hx := Nat.mod_pow_succ (x := x) (b := 10) (k := k)
    have hy := Nat.mod_pow_succ (x := y) (b := 10) (k := k)
    have lx : x % 10 ^ k < 10 ^ k := Nat.mod_lt _ (Nat.pow_pos (by omega))
    have ly : y % 10 ^ k < 10 ^ k := Nat.mod_lt _ (Nat.pow_pos (by omega))
    show (if dig x k = dig y k then _ else _) = _
    rw [ih, hx, hy]
    unfold dig
    generalize x / 10 ^ k % 10 = a
    generalize y / 10 ^ k % 10 = b
    generalize 10 ^ k = p at *
    generalize x % p = x' at *
    generalize y % p = y' at *
    by_cases h : a = b
    · subst h
      rw [if_pos rfl, decide_eq_decide]
      omega
    · rw [if_neg h, decide_eq_decide]
      constructor
      · intro hlt
        have : p * (a + 1) ≤ p * b := Nat.mul_le_mul_left p hlt
        rw [Nat.mul_add] at this
        omega
      · intro hlt
        by_cases hab : a < b
        · exact hab
        · have : p * (b + 1) ≤ p * a := Nat.mul_le_mul_left p (by omega)
          rw [Nat.mul_add] at this
          omega
theorem dig_shift (n e j : Nat) : dig (n * 10 ^ e) j = if j < e then 0 else dig n (j - e) := by
  unfold dig
  by_cases h : j < e
  · rw [if_pos h]
    obtain ⟨d, rfl⟩ : ∃ d, e = j + (d + 1) := ⟨e - j - 1, by omega⟩
    rw [Nat.pow_add, ← Nat.mul_assoc, Nat.mul_right_comm, Nat.mul_div_cancel _ (Nat.pow_pos (by omega)), Nat.pow_succ, ← Nat.mul_assoc]
    omega
  · rw [if_neg h]
    obtain ⟨d, rfl⟩ : ∃ d, j = e + d := ⟨j - e, by omega⟩
    rw [Nat.pow_add, ← Nat.div_div_eq_div_mul, Nat.mul_div_cancel _ (Nat.pow_pos (by omega)), Nat.add_sub_cancel_left]
theorem dig_out (n i k : Nat) (h : n < 10 ^ k) (hi : k ≤ i) : dig n i = 0 := by
  unfold dig
  rw [Nat.div_eq_of_lt (Nat.lt_of_lt_of_le h (Nat.pow_le_pow_right (by omega) hi))]
def longF (n s : Nat) (j : Nat) : Nat := if 12 - s ≤ j ∧ j < 24 - s then dig n (j - (12 - s)) else 0
theorem longF_eq (n s j : Nat) (h : n < 10 ^ 12) (hs : s ≤ 6) : longF n s j = dig (n * 10 ^ (12 - s)) j := by
  rw [dig_shift]
  unfold longF
  by_cases h1 : j < 12 - s
  · rw [if_pos h1, if_neg (by omega)]
  · rw [if_neg h1]
    by_cases h2 : j < 24 - s
    · rw [if_pos ⟨by omega, h2⟩]
    · rw [if_neg (by omega), dig_out n _ 12 h (by omega)]
theorem lessD_congr {a b a' b' : Nat → Nat} {k : Nat} (ha : ∀ j, j < k → a j = a' j) (hb : ∀ j, j < k → b j = b' j) : lessD a b k = lessD a' b' k := by
  induction k with
  | zero => rfl
  | succ k ih =>
    show (if a k = b k then _ else _) = (if a' k = b' k then _ else _)
    rw [ih (fun j hj => ha j (by omega)) (fun j hj => hb j (by omega)), ha k (by omega), hb k (by omega)]
theorem shift_lt (n s : Nat) (h : n < 10 ^ 12) : n * 10 ^ (12 - s) < 10 ^ 60 := by
  have h1 : 10 ^ (12 - s) ≤ 10 ^ 12 := Nat.pow_le_pow_right (by omega) (by omega)
  calc n * 10 ^ (12 - s) < 10 ^ 12 * 10 ^ (12 - s) := Nat.mul_lt_mul_of_pos_right h (Nat.pow_pos (by omega))
    _ ≤ 10 ^ 12 * 10 ^ 12 := Nat.mul_le_mul_left _ h1
    _ ≤ 10 ^ 60 := by decide
theorem less_long (n s n' s' : Nat) (h : n < 10 ^ 12) (h' : n' < 10 ^ 12) (hs : s ≤ 6) (hs' : s' ≤ 6) :
    lessD (longF n s) (longF n' s') 60 = decide (n * 10 ^ (6 - s) < n' * 10 ^ (6 - s')) := by
  rw [lessD_congr (fun j _ => longF_eq n s j h hs) (fun j _ => longF_eq n' s' j h' hs'), lessD_eq, Nat.mod_eq_of_lt (shift_lt n s h), Nat.mod_eq_of_lt (shift_lt n' s' h')]
  rw [decide_eq_decide, show 12 - s = (6 - s) + 6 by omega, show 12 - s' = (6 - s') + 6 by omega, Nat.pow_add, Nat.pow_add, ← Nat.mul_assoc, ← Nat.mul_assoc]
  omega
theorem unitsI_abs (n s : Int) : unitsI n s = (if n < 0 then -1 else 1) * ((n.natAbs * 10 ^ (6 - s.toNat) : Nat) : Int) := by
  unfold unitsI
  have hp : ((10 ^ (6 - s.toNat) : Nat) : Int) = (10 : Int) ^ (6 - s.toNat) := by norm_cast
  rw [Int.natCast_mul, hp, ← Int.mul_assoc]
  congr 1
  by_cases h : n < 0 <;> simp [h] <;> omega
def refCmp (n s n' s' : Int) : Int :=
  if n < 0 ∧ 0 ≤ n' then -1 else if 0 ≤ n ∧ n' < 0 then 1 else
  if lessD (longF n.natAbs s.toNat) (longF n'.natAbs s'.toNat) 60 = true then (if n < 0 then 1 else -1)
  else if lessD (longF n'.natAbs s'.toNat) (longF n.natAbs s.toNat) 60 = true then (if n < 0 then -1 else 1) else 0
theorem refCmp_eq {n s n' s' : Int} (h : decSnd n s = true) (h' : decSnd n' s' = true) : refCmp n s n' s' = cmpD n s n' s' := by
  obtain ⟨a1, a2, a3, a4, -⟩ := decSnd_of h
  obtain ⟨b1, b2, b3, b4, -⟩ := decSnd_of h'
  have e1 := less_long n.natAbs s.toNat n'.natAbs s'.toNat (by omega) (by omega) (by omega) (by omega)
  have e2 := less_long n'.natAbs s'.toNat n.natAbs s.toNat (by omega) (by omega) (by omega) (by omega)
  unfold refCmp cmpD cmpI
  rw [e1, e2, unitsI_abs, unitsI_abs]
  have p1 : 0 < 10 ^ (6 - s.toNat) := Nat.pow_pos (by omega)
  have p2 : 0 < 10 ^ (6 - s'.toNat) := Nat.pow_pos (by omega)
  have z1 : 0 < n.natAbs → 0 < n.natAbs * 10 ^ (6 - s.toNat) := fun h => Nat.mul_pos h p1
  have z2 : 0 < n'.natAbs → 0 < n'.natAbs * 10 ^ (6 - s'.toNat) := fun h => Nat.mul_pos h p2
  generalize n.natAbs * 10 ^ (6 - s.toNat) = x at *
  generalize n'.natAbs * 10 ^ (6 - s'.toNat) = y at *
  by_cases hn : n < 0 <;> by_cases hn' : n' < 0 <;> simp only [hn, hn', if_true, if_false, decide_eq_true_eq, true_and, false_and, and_true, and_false, show (0 ≤ n') = ¬ (n' < 0) by simp, show (0 ≤ n) = ¬ (n < 0) by simp, not_true, not_false_iff] <;> (repeat' split) <;> omega
end Go.Proofs.YtankkadnhdfpfaaGreatDoor

/- The greatest whole number of units that is not above a number: plain. -/
set_option linter.unusedSimpArgs false
set_option linter.unusedVariables false
namespace Go.Proofs.YtankkadnhdfpfaaGreatDoor

def byI (sc : Int) : Int := 10 ^ (6 - sc.toNat)
def atI (n s sc : Int) : Int := unitsI n s / byI sc
def atE (n s sc : Int) : Bool := unitsI n s % byI sc == 0
theorem byI_pos (sc : Int) : 0 < byI sc := by unfold byI; exact Int.pow_pos (by decide)
theorem byI_le (sc : Int) : byI sc ≤ 1000000 := by
  unfold byI
  have h := Nat.pow_le_pow_right (n := 10) (by omega) (show 6 - sc.toNat ≤ 6 by omega)
  have e : (10 : Int) ^ (6 - sc.toNat) = ((10 ^ (6 - sc.toNat) : Nat) : Int) := by norm_cast
  have e2 : (10 : Nat) ^ 6 = 1000000 := rfl
  rw [e]; omega
theorem units_at {n s sc : Int} (h : atE n s sc = true) : unitsI n s = atI n s sc * byI sc := by
  unfold atE at h
  have h := beq_iff_eq.1 h
  unfold atI
  have := Int.mul_ediv_add_emod (unitsI n s) (byI sc)
  rw [h] at this
  rw [Int.mul_comm]; omega
theorem pow_split {a b c : Nat} (h : a = b + c) : (10 : Int) ^ a = 10 ^ b * 10 ^ c := by rw [h, Int.pow_add]
theorem at_up {n s sc : Int} (h0 : 0 ≤ s) (h1 : s ≤ sc) (h2 : sc ≤ 6) : atI n s sc = n * 10 ^ (sc.toNat - s.toNat) ∧ atE n s sc = true := by
  have hp := byI_pos sc
  have e : unitsI n s = n * 10 ^ (sc.toNat - s.toNat) * byI sc := by
    unfold unitsI byI
    rw [Int.mul_assoc, ← pow_split (show 6 - s.toNat = sc.toNat - s.toNat + (6 - sc.toNat) by omega)]
  unfold atI atE
  rw [e]
  exact ⟨Int.mul_ediv_cancel _ (by omega), by rw [Int.mul_emod_left]; rfl⟩
theorem at_down {n s sc : Int} (h0 : 0 ≤ sc) (h1 : sc ≤ s) (h2 : s ≤ 6) : atI n s sc = n / 10 ^ (s.toNat - sc.toNat) ∧ atE n s sc = (n % 10 ^ (s.toNat - sc.toNat) == 0) := by
  have e1 : byI sc = 10 ^ (s.toNat - sc.toNat) * 10 ^ (6 - s.toNat) := by
    unfold byI
    rw [← pow_split (show 6 - sc.toNat = s.toNat - sc.toNat + (6 - s.toNat) by omega)]
  have hq : (0 : Int) < 10 ^ (6 - s.toNat) := Int.pow_pos (by decide)
  unfold atI atE unitsI
  rw [e1, Int.mul_ediv_mul_of_pos_left _ _ hq, Int.mul_comm n, Int.mul_comm (10 ^ (s.toNat - sc.toNat)) (10 ^ (6 - s.toNat)), Int.mul_emod_mul_of_pos _ _ hq]
  refine ⟨rfl, ?_⟩
  rw [Bool.eq_iff_iff, beq_iff_eq, beq_iff_eq, Int.mul_eq_zero]
  constructor
  · rintro (h | h)
    · omega
    · exact h
  · intro h; exact .inr h
theorem at_fit {n s sc : Int} (hd : decSnd n s = true) (h0 : 0 ≤ sc) (h2 : sc ≤ 6) : atE n s sc = decide (s ≤ sc) := by
  obtain ⟨a1, a2, _, _, a5⟩ := decSnd_of hd
  by_cases h : s ≤ sc
  · rw [(at_up a1 h h2).2, decide_eq_true h]
  · rw [(at_down h0 (by omega) a2).2, decide_eq_false h]
    rw [Bool.eq_false_iff]
    intro he
    have he := beq_iff_eq.1 he
    obtain ⟨m, hm⟩ : ∃ m, s.toNat - sc.toNat = m + 1 := ⟨s.toNat - sc.toNat - 1, by omega⟩
    rw [hm, Int.pow_succ] at he
    have hd10 : (10 : Int) ∣ n := Int.dvd_trans (Int.dvd_mul_left _ _) (Int.dvd_of_emod_eq_zero he)
    have := Int.emod_eq_zero_of_dvd hd10
    rcases a5 with h5 | h5
    · omega
    · exact h5 this
theorem at_bd {n s sc : Int} (h1 : -999999999999 ≤ n) (h2 : n ≤ 999999999999) (h3 : 0 ≤ s) (h4 : s ≤ 6) : -1000000000000000000 ≤ atI n s sc ∧ atI n s sc ≤ 1000000000000000000 := by
  have hp := byI_pos sc
  have hu : -999999999999000000 ≤ unitsI n s ∧ unitsI n s ≤ 999999999999000000 := by
    unfold unitsI
    have e : (10 : Int) ^ (6 - s.toNat) = ((10 ^ (6 - s.toNat) : Nat) : Int) := by norm_cast
    have h := Nat.pow_le_pow_right (n := 10) (by omega) (show 6 - s.toNat ≤ 6 by omega)
    rw [e]
    generalize 10 ^ (6 - s.toNat) = q at *
    have e2 : (10 : Nat) ^ 6 = 1000000 := rfl
    obtain ⟨p, hp⟩ : ∃ p : Int, (q : Int) = p := ⟨_, rfl⟩
    have hp : p ≤ 1000000 := by omega
    have h0 : 0 ≤ p := by omega
    rw [show (q : Int) = p by assumption]
    constructor
    · have : -999999999999 * p ≤ n * p := Int.mul_le_mul_of_nonneg_right h1 h0
      omega
    · have : n * p ≤ 999999999999 * p := Int.mul_le_mul_of_nonneg_right h2 h0
      omega
  unfold atI
  have ha := Int.mul_ediv_add_emod (unitsI n s) (byI sc)
  have hb := Int.emod_nonneg (unitsI n s) (show byI sc ≠ 0 by omega)
  have hc := Int.emod_lt_of_pos (unitsI n s) hp
  generalize unitsI n s / byI sc = q at *
  generalize unitsI n s % byI sc = r at *
  generalize byI sc = p at *
  constructor
  · rcases Int.lt_or_le q (-1000000000000000000) with hq | hq
    · have : p * q ≤ p * (-1000000000000000001) := Int.mul_le_mul_of_nonneg_left (by omega) (by omega)
      omega
    · exact hq
  · rcases Int.lt_or_le 1000000000000000000 q with hq | hq
    · have : p * 1000000000000000001 ≤ p * q := Int.mul_le_mul_of_nonneg_left (by omega) (by omega)
      omega
    · exact hq
theorem tdiv_floor {x p : Int} (hp : 0 < p) : (if x.tmod p < 0 then x.tdiv p - 1 else x.tdiv p) = x / p ∧ (x.tmod p == 0) = (x % p == 0) := by
  have h1 := Int.mul_tdiv_add_tmod x p
  have h2 := Int.mul_ediv_add_emod x p
  have h3 := Int.emod_nonneg x (show p ≠ 0 by omega)
  have h4 := Int.emod_lt_of_pos x hp
  have h5 : x.tmod p < p := Int.tmod_lt_of_pos x hp
  have h6 : -p < x.tmod p := by
    have := Int.tmod_lt_of_pos (-x) hp
    rw [Int.neg_tmod] at this; omega
  generalize x.tdiv p = a at *
  generalize x.tmod p = b at *
  generalize x / p = c at *
  generalize x % p = d at *
  have h7 : p * a - p * c = d - b := by omega
  rw [← Int.mul_sub] at h7
  have hac : a - c = 0 ∨ a - c = 1 := by
    rcases Int.lt_or_le (a - c) 0 with h | h
    · have : p * (a - c) ≤ p * (-1) := Int.mul_le_mul_of_nonneg_left (by omega) (by omega)
      by_cases hb : b < 0
      · omega
      · omega
    · rcases Int.lt_or_le 1 (a - c) with h' | h'
      · have : p * 2 ≤ p * (a - c) := Int.mul_le_mul_of_nonneg_left (by omega) (by omega)
        omega
      · omega
  rcases hac with h | h
  · have hcb : d = b := by rw [h] at h7; omega
    rw [if_neg (by omega), hcb]; exact ⟨by omega, rfl⟩
  · have hcb : d - b = p := by rw [h] at h7; omega
    rw [if_pos (by omega)]
    refine ⟨by omega, ?_⟩
    rw [Bool.eq_iff_iff, beq_iff_eq, beq_iff_eq]; omega
end Go.Proofs.YtankkadnhdfpfaaGreatDoor
