/- Values as texts: plain: numbers, quotes, one text for one value. -/
import Derived.Test.YthicilfhnakhmaaGreatDoorVl
import Derived.Lib.ItoaNum
set_option linter.unusedSimpArgs false
set_option linter.unusedVariables false
namespace Go.Proofs.YthicilfhnakhmaaGreatDoor
open Go.Lib

/-- so many digits at the end, zeros ahead -/
def lowD : Nat → Nat → List UInt8
  | _, 0 => []
  | N, k + 1 => lowD (N / 10) k ++ [UInt8.ofNat (48 + N % 10)]
theorem lowD_length : ∀ (k N : Nat), (lowD N k).length = k
  | 0, _ => rfl
  | k + 1, N => by rw [lowD, List.length_append, lowD_length k]; rfl
theorem decDigits_pos (u : Nat) : 1 ≤ (decDigits u).length := by
  rw [decDigits]; split <;> simp
theorem decDigits_big {u : Nat} (h : ¬ u < 10) : decDigits u = decDigits (u / 10) ++ [UInt8.ofNat (48 + u % 10)] := by rw [decDigits, dif_neg h]
/-- digits, zeros ahead, at least so many -/
def padD (u k : Nat) : List UInt8 := List.replicate (k - (decDigits u).length) 48 ++ decDigits u
theorem padD_succ (N k : Nat) : padD N (k + 2) = padD (N / 10) (k + 1) ++ [UInt8.ofNat (48 + N % 10)] := by
  unfold padD
  by_cases h : N < 10
  · have e : N / 10 = 0 := by omega
    rw [e, decDigits_one h, decDigits_one (show 0 < 10 by decide), Nat.mod_eq_of_lt h]
    simp only [List.length_singleton]
    rw [show k + 2 - 1 = k + 1 by omega, show k + 1 - 1 = k by omega, List.replicate_succ']
    rfl
  · rw [decDigits_big h, List.length_append, List.length_singleton, show k + 2 - ((decDigits (N / 10)).length + 1) = k + 1 - (decDigits (N / 10)).length by omega]
    simp
theorem padD_split : ∀ (k N : Nat), padD N (k + 1) = decDigits (N / 10 ^ k) ++ lowD N k
  | 0, N => by
    have := decDigits_pos N
    unfold padD
    rw [show 0 + 1 - (decDigits N).length = 0 by omega]
    simp [lowD]
  | k + 1, N => by
    rw [padD_succ, padD_split k (N / 10), lowD, Nat.div_div_eq_div_mul, Nat.pow_succ', List.append_assoc]
/-- a number as a text -/
def decL (n s : Int) : List UInt8 :=
  let b := if 0 < s then decDigits (n.natAbs / 10 ^ s.toNat) ++ 46 :: lowD n.natAbs s.toNat else decDigits n.natAbs
  if n < 0 then 45 :: b else b
theorem dig_nat (d : Nat) (h : d < 10) : (UInt8.ofNat (48 + d)).toNat = 48 + d := by
  rw [UInt8.toNat_ofNat']; omega
theorem dec_digit (u : Nat) : ∀ x ∈ decDigits u, 48 ≤ x.toNat ∧ x.toNat < 58 := by
  induction u using Nat.strongRecOn with
  | ind u ih =>
    intro x hx
    by_cases h : u < 10
    · rw [decDigits_one h] at hx
      have := List.mem_singleton.1 hx
      subst this
      rw [dig_nat u h]; omega
    · rw [decDigits_big h] at hx
      rcases List.mem_append.1 hx with hx | hx
      · exact ih (u / 10) (by omega) x hx
      · have := List.mem_singleton.1 hx
        subst this
        rw [dig_nat _ (Nat.mod_lt _ (by decide))]; omega
theorem low_digit : ∀ (k N : Nat), ∀ x ∈ lowD N k, 48 ≤ x.toNat ∧ x.toNat < 58
  | 0, _, x, hx => by simp [lowD] at hx
  | k + 1, N, x, hx => by
    rw [lowD] at hx
    rcases List.mem_append.1 hx with hx | hx
    · exact low_digit k _ x hx
    · have := List.mem_singleton.1 hx
      subst this
      rw [dig_nat _ (Nat.mod_lt _ (by decide))]; omega
theorem dig_inj {a b : Nat} (ha : a < 10) (hb : b < 10) (h : UInt8.ofNat (48 + a) = UInt8.ofNat (48 + b)) : a = b := by
  have := congrArg UInt8.toNat h
  rw [dig_nat a ha, dig_nat b hb] at this
  omega
theorem lowD_inj : ∀ (k : Nat) {N M : Nat}, lowD N k = lowD M k → N % 10 ^ k = M % 10 ^ k
  | 0, N, M, _ => by rw [Nat.pow_zero, Nat.mod_one, Nat.mod_one]
  | k + 1, N, M, h => by
    rw [lowD, lowD] at h
    obtain ⟨h1, h2⟩ := List.append_inj' h rfl
    have e1 := lowD_inj k h1
    have e2 := dig_inj (Nat.mod_lt _ (by decide)) (Nat.mod_lt _ (by decide)) (List.cons.inj h2).1
    rw [Nat.pow_succ', Nat.mod_mul, Nat.mod_mul, e1, e2]
theorem decDigits_inj : ∀ {u v : Nat}, decDigits u = decDigits v → u = v := by
  intro u
  induction u using Nat.strongRecOn with
  | ind u ih =>
    intro v h
    by_cases hu : u < 10
    · by_cases hv : v < 10
      · rw [decDigits_one hu, decDigits_one hv] at h
        exact dig_inj hu hv (List.cons.inj h).1
      · rw [decDigits_one hu, decDigits_big hv] at h
        have h1 := congrArg List.length h
        have h2 := decDigits_pos (v / 10)
        rw [List.length_append, List.length_singleton, List.length_singleton] at h1
        omega
    · by_cases hv : v < 10
      · rw [decDigits_big hu, decDigits_one hv] at h
        have h1 := congrArg List.length h
        have h2 := decDigits_pos (u / 10)
        rw [List.length_append, List.length_singleton, List.length_singleton] at h1
        omega
      · rw [decDigits_big hu, decDigits_big hv] at h
        obtain ⟨h1, h2⟩ := List.append_inj' h rfl
        have e1 := ih (u / 10) (by omega) h1
        have e2 := dig_inj (Nat.mod_lt _ (by decide)) (Nat.mod_lt _ (by decide)) (List.cons.inj h2).1
        omega
/-- two lists that are one, each up to its first point -/
theorem point_inj : ∀ {a b c d : List UInt8}, (∀ x ∈ a, x ≠ 46) → (∀ x ∈ b, x ≠ 46) → a ++ 46 :: c = b ++ 46 :: d → a = b ∧ c = d
  | [], [], c, d, _, _, h => ⟨rfl, (List.cons.inj h).2⟩
  | [], y :: b, c, d, _, hb, h => absurd (List.cons.inj h).1.symm (hb y (by simp))
  | x :: a, [], c, d, ha, _, h => absurd (List.cons.inj h).1 (ha x (by simp))
  | x :: a, y :: b, c, d, ha, hb, h => by
    obtain ⟨rfl, h2⟩ := List.cons.inj h
    obtain ⟨rfl, rfl⟩ := point_inj (fun z hz => ha z (List.mem_cons_of_mem _ hz)) (fun z hz => hb z (List.mem_cons_of_mem _ hz)) h2
    exact ⟨rfl, rfl⟩
def absL (N k : Nat) : List UInt8 := if 0 < k then decDigits (N / 10 ^ k) ++ 46 :: lowD N k else decDigits N
theorem no_point {x : UInt8} (h : 48 ≤ x.toNat ∧ x.toNat < 58) : x ≠ 46 := by rintro rfl; exact absurd h.1 (by decide)
theorem absL_inj {N k M j : Nat} (h : absL N k = absL M j) : N = M ∧ k = j := by
  unfold absL at h
  by_cases hk : 0 < k
  · by_cases hj : 0 < j
    · rw [if_pos hk, if_pos hj] at h
      obtain ⟨h1, h2⟩ := point_inj (fun x hx => no_point (dec_digit _ x hx)) (fun x hx => no_point (dec_digit _ x hx)) h
      have hkj : k = j := by rw [← lowD_length k N, h2, lowD_length]
      subst hkj
      have e1 := decDigits_inj h1
      have e2 := lowD_inj k h2
      refine ⟨?_, rfl⟩
      rw [← Nat.div_add_mod N (10 ^ k), ← Nat.div_add_mod M (10 ^ k), e1, e2]
    · rw [if_pos hk, if_neg hj] at h
      have : (46 : UInt8) ∈ decDigits M := by rw [← h]; simp
      exact absurd rfl (no_point (dec_digit _ _ this))
  · by_cases hj : 0 < j
    · rw [if_neg hk, if_pos hj] at h
      have : (46 : UInt8) ∈ decDigits N := by rw [h]; simp
      exact absurd rfl (no_point (dec_digit _ _ this))
    · rw [if_neg hk, if_neg hj] at h
      exact ⟨decDigits_inj h, by omega⟩
theorem decL_eq (n s : Int) : decL n s = if n < 0 then 45 :: absL n.natAbs s.toNat else absL n.natAbs s.toNat := by
  unfold decL absL
  by_cases h : 0 < s
  · rw [if_pos h, if_pos (show 0 < s.toNat by omega)]
  · rw [if_neg h, if_neg (show ¬ 0 < s.toNat by omega)]
/-- the first sign of digits -/
theorem decDigits_head (u : Nat) : ∃ x r, decDigits u = x :: r ∧ 48 ≤ x.toNat ∧ x.toNat < 58 := by
  cases h : decDigits u with
  | nil => have := decDigits_pos u; rw [h] at this; simp at this
  | cons x r => exact ⟨x, r, rfl, dec_digit u x (by rw [h]; simp)⟩
theorem absL_head (N k : Nat) : ∃ x r, absL N k = x :: r ∧ 48 ≤ x.toNat ∧ x.toNat < 58 := by
  unfold absL
  split
  · obtain ⟨x, r, h, h1⟩ := decDigits_head (N / 10 ^ k)
    exact ⟨x, r ++ 46 :: lowD N k, by rw [h]; rfl, h1⟩
  · exact decDigits_head N
theorem decL_head (n s : Int) : ∃ x r, decL n s = x :: r ∧ (x = 45 ∨ (48 ≤ x.toNat ∧ x.toNat < 58)) := by
  rw [decL_eq]
  split
  · exact ⟨45, _, rfl, .inl rfl⟩
  · obtain ⟨x, r, h, h1⟩ := absL_head n.natAbs s.toNat
    exact ⟨x, r, h, .inr h1⟩
theorem decL_inj {n s m t : Int} (hs : 0 ≤ s) (ht : 0 ≤ t) (h : decL n s = decL m t) : n = m ∧ s = t := by
  rw [decL_eq, decL_eq] at h
  obtain ⟨x, r, e1, b1⟩ := absL_head n.natAbs s.toNat
  obtain ⟨y, r', e2, b2⟩ := absL_head m.natAbs t.toNat
  have no : ∀ {z : UInt8}, 48 ≤ z.toNat ∧ z.toNat < 58 → z ≠ 45 := by rintro z hz rfl; exact absurd hz.1 (by decide)
  by_cases hn : n < 0
  · by_cases hm : m < 0
    · rw [if_pos hn, if_pos hm] at h
      obtain ⟨h1, h2⟩ := absL_inj (List.cons.inj h).2
      omega
    · rw [if_pos hn, if_neg hm, e2] at h
      exact absurd (List.cons.inj h).1.symm (no b2)
  · by_cases hm : m < 0
    · rw [if_neg hn, if_pos hm, e1] at h
      exact absurd (List.cons.inj h).1 (no b1)
    · rw [if_neg hn, if_neg hm] at h
      obtain ⟨h1, h2⟩ := absL_inj h
      omega
theorem dec_len_lt {u : Nat} : ∀ {k : Nat}, u < 10 ^ (k + 1) → (decDigits u).length ≤ k + 1 := by
  intro k
  induction k generalizing u with
  | zero => intro h; rw [decDigits_one (by omega)]; simp
  | succ k ih =>
    intro h
    by_cases hu : u < 10
    · rw [decDigits_one hu]; simp
    · rw [decDigits_big hu, List.length_append, List.length_singleton]
      have := ih (u := u / 10) (by rw [Nat.pow_succ] at h; omega)
      omega
/-- a text with a sign \ ahead of each \ and " -/
def escL : List UInt8 → List UInt8
  | [] => []
  | x :: r => if x = 34 ∨ x = 92 then 92 :: x :: escL r else x :: escL r
theorem escL_append : ∀ (a b : List UInt8), escL (a ++ b) = escL a ++ escL b
  | [], _ => rfl
  | x :: a, b => by
    rw [List.cons_append, escL, escL, escL_append a b]
    split <;> rfl
theorem escL_inj : ∀ {a b : List UInt8}, escL a = escL b → a = b
  | [], [], _ => rfl
  | [], y :: b, h => by rw [escL, escL] at h; split at h <;> cases h
  | x :: a, [], h => by rw [escL, escL] at h; split at h <;> cases h
  | x :: a, y :: b, h => by
    rw [escL, escL] at h
    by_cases hx : x = 34 ∨ x = 92
    · by_cases hy : y = 34 ∨ y = 92
      · rw [if_pos hx, if_pos hy] at h
        obtain ⟨_, h2⟩ := List.cons.inj h
        obtain ⟨e, h3⟩ := List.cons.inj h2
        rw [e, escL_inj h3]
      · rw [if_pos hx, if_neg hy] at h
        exact absurd (.inr (List.cons.inj h).1.symm) hy
    · by_cases hy : y = 34 ∨ y = 92
      · rw [if_neg hx, if_pos hy] at h
        exact absurd (.inr (List.cons.inj h).1) hx
      · rw [if_neg hx, if_neg hy] at h
        obtain ⟨e, h3⟩ := List.cons.inj h
        rw [e, escL_inj h3]
def quoL (l : List UInt8) : List UInt8 := 34 :: (escL l ++ [34])
theorem quoL_inj {a b : List UInt8} (h : quoL a = quoL b) : a = b := by
  unfold quoL at h
  exact escL_inj (List.append_inj' (List.cons.inj h).2 rfl).1
end Go.Proofs.YthicilfhnakhmaaGreatDoor
