import GoSem.Core.Utf8
/- The signs that may stand in XML, byte by byte and by the model's decoder: plain. -/
set_option linter.unusedSimpArgs false
set_option linter.unusedVariables false
namespace Go.Proofs.YtfhmjkdpohepaaaDoor

/-- the signs that may stand in XML -/
def signB (r : Nat) : Bool := r == 9 || r == 10 || r == 13 || (32 ≤ r && r ≤ 55295) || (57344 ≤ r && r ≤ 65533) || (65536 ≤ r && r ≤ 1114111)

/-- how many bytes the sign at a place has; 0: none that may stand -/
def stepN (s : ByteArray) (i : Nat) : Nat :=
  if ((Utf8.decode s i).1 == 65533 && (Utf8.decode s i).2 == 1) || !signB (Utf8.decode s i).1 then 0 else (Utf8.decode s i).2

def byteAt (s : ByteArray) (i : Nat) : Nat := (s.get! i).toNat

def refLen (b : Nat) : Nat := if b < 128 then 1 else if 192 ≤ b ∧ b < 224 then 2 else if 224 ≤ b ∧ b < 240 then 3 else if 240 ≤ b ∧ b < 248 then 4 else 0
def refHead (b : Nat) : Nat := if b < 128 then b else if 192 ≤ b ∧ b < 224 then b - 192 else if 224 ≤ b ∧ b < 240 then b - 224 else b - 240
def refLeast (b : Nat) : Nat := if b < 128 then 0 else if 192 ≤ b ∧ b < 224 then 128 else if 224 ≤ b ∧ b < 240 then 2048 else 65536
/-- is the k-th byte behind a place one that goes on? -/
def contB (s : ByteArray) (i : Nat) : Bool := i < s.size && 128 ≤ byteAt s i && byteAt s i < 192
/-- the first k bytes behind a head taken in -/
def refRune (s : ByteArray) (i : Nat) : Nat → Nat
  | 0 => refHead (byteAt s i)
  | k + 1 => refRune s i k * 64 + (byteAt s (i + (k + 1)) - 128)
def contsB (s : ByteArray) (i : Nat) : Nat → Bool
  | 0 => true
  | k + 1 => contsB s i k && contB s (i + (k + 1))

theorem byteAt_lt (s : ByteArray) (i : Nat) : byteAt s i < 256 := UInt8.toNat_lt _

theorem div64 (c : Nat) (h : c < 256) : (c / 64 == 2) = (decide (128 ≤ c) && decide (c < 192)) := by
  rw [Bool.eq_iff_iff]; simp; omega



def step2 (d : Nat × Nat) : Nat := if (d.1 == 65533 && d.2 == 1) || !signB d.1 then 0 else d.2
theorem step2_bad : step2 (Utf8.runeError, 1) = 0 := by unfold step2 Utf8.runeError; simp
theorem step2_one (r : Nat) (h : r < 128) : step2 (r, 1) = if signB r = false then 0 else 1 := by
  have : (r == 65533) = false := by simp; omega
  unfold step2; simp [this]
theorem step2_many (r n : Nat) (h : 2 ≤ n) : step2 (r, n) = if signB r = false then 0 else n := by
  have : (n == 1) = false := by simp; omega
  unfold step2; simp [this]
theorem signB_valid (r : Nat) (h : signB r = true) : Utf8.valid (r : Int) = true := by
  simp [signB] at h
  simp [Utf8.valid]
  omega
theorem conts1 (s : ByteArray) (i : Nat) : contsB s i 1 = contB s (i + 1) := by simp [contsB]
theorem conts2 (s : ByteArray) (i : Nat) : contsB s i 2 = (contB s (i + 1) && contB s (i + 2)) := by simp [contsB]
theorem conts3 (s : ByteArray) (i : Nat) : contsB s i 3 = (contB s (i + 1) && contB s (i + 2) && contB s (i + 3)) := by simp [contsB]
theorem cont_eq (s : ByteArray) (i : Nat) : (decide (i < s.size) && (byteAt s i / 64 == 2)) = contB s i := by
  rw [div64 _ (byteAt_lt s i)]; unfold contB; rw [Bool.and_assoc]
theorem contB_range {s : ByteArray} {i : Nat} (h : contB s i = true) : 128 ≤ byteAt s i ∧ byteAt s i < 192 := by
  simp [contB] at h; omega

set_option maxRecDepth 100000 in
theorem decode_eq (s : ByteArray) (i : Nat) : Utf8.decode s i =
    (if byteAt s i < 128 then (byteAt s i, 1)
     else if (byteAt s i / 32 == 6 && contB s (i + 1)) = true then
       (if byteAt s i % 32 * 64 + byteAt s (i + 1) % 64 ≥ 128 then (byteAt s i % 32 * 64 + byteAt s (i + 1) % 64, 2) else (Utf8.runeError, 1))
     else if (byteAt s i / 16 == 14 && contB s (i + 1) && contB s (i + 2)) = true then
       (if (decide (byteAt s i % 16 * 4096 + byteAt s (i + 1) % 64 * 64 + byteAt s (i + 2) % 64 ≥ 2048) && Utf8.valid ((byteAt s i % 16 * 4096 + byteAt s (i + 1) % 64 * 64 + byteAt s (i + 2) % 64 : Nat) : Int)) = true then (byteAt s i % 16 * 4096 + byteAt s (i + 1) % 64 * 64 + byteAt s (i + 2) % 64, 3) else (Utf8.runeError, 1))
     else if (byteAt s i / 8 == 30 && contB s (i + 1) && contB s (i + 2) && contB s (i + 3)) = true then
       (if (decide (byteAt s i % 8 * 262144 + byteAt s (i + 1) % 64 * 4096 + byteAt s (i + 2) % 64 * 64 + byteAt s (i + 3) % 64 ≥ 65536) && Utf8.valid ((byteAt s i % 8 * 262144 + byteAt s (i + 1) % 64 * 4096 + byteAt s (i + 2) % 64 * 64 + byteAt s (i + 3) % 64 : Nat) : Int)) = true then (byteAt s i % 8 * 262144 + byteAt s (i + 1) % 64 * 4096 + byteAt s (i + 2) % 64 * 64 + byteAt s (i + 3) % 64, 4) else (Utf8.runeError, 1))
     else (Utf8.runeError, 1)) := by
  rw [← cont_eq, ← cont_eq, ← cont_eq]
  have e0 : (s.get! (i + 0)).toNat = byteAt s i := rfl
  have e1 : (s.get! (i + 1)).toNat = byteAt s (i + 1) := rfl
  have e2 : (s.get! (i + 2)).toNat = byteAt s (i + 2) := rfl
  have e3 : (s.get! (i + 3)).toNat = byteAt s (i + 3) := rfl
  unfold Utf8.decode
  simp only [e0, e1, e2, e3]

theorem rr0 (s : ByteArray) (i : Nat) : refRune s i 0 = refHead (byteAt s i) := rfl
theorem rr1 (s : ByteArray) (i : Nat) : refRune s i 1 = refHead (byteAt s i) * 64 + (byteAt s (i + 1) - 128) := rfl
theorem rr2 (s : ByteArray) (i : Nat) : refRune s i 2 = (refHead (byteAt s i) * 64 + (byteAt s (i + 1) - 128)) * 64 + (byteAt s (i + 2) - 128) := rfl
theorem rr3 (s : ByteArray) (i : Nat) : refRune s i 3 = ((refHead (byteAt s i) * 64 + (byteAt s (i + 1) - 128)) * 64 + (byteAt s (i + 2) - 128)) * 64 + (byteAt s (i + 3) - 128) := rfl

theorem decode_pos (s : ByteArray) (i : Nat) : 1 ≤ (Utf8.decode s i).2 := by
  rw [decode_eq]
  repeat' split
  all_goals simp

theorem three (r : Nat) (n m : Nat) (hn : 2 ≤ n) : step2 (if (decide (r ≥ m) && Utf8.valid (r : Int)) = true then (r, n) else (Utf8.runeError, 1)) = if r < m ∨ signB r = false then 0 else n := by
  by_cases hr : m ≤ r
  · cases hv : Utf8.valid (r : Int)
    · have : signB r = false := by
        cases hs : signB r
        · rfl
        · have := signB_valid r hs; rw [hv] at this; cases this
      simp [this, step2_bad]
    · simp only [ge_iff_le, hr, decide_true, Bool.and_self, if_true]
      rw [step2_many _ _ hn]
      simp [show ¬ r < m by omega]
  · simp [hr, show r < m by omega, step2_bad]

theorem stepN_ref (s : ByteArray) (i : Nat) :
    stepN s i = if refLen (byteAt s i) = 0 then 0 else if contsB s i (refLen (byteAt s i) - 1) = true then
      (if refRune s i (refLen (byteAt s i) - 1) < refLeast (byteAt s i) ∨ signB (refRune s i (refLen (byteAt s i) - 1)) = false then 0 else refLen (byteAt s i)) else 0 := by
  have h0 := byteAt_lt s i
  have h1 := byteAt_lt s (i + 1)
  have h2 := byteAt_lt s (i + 2)
  have h3 := byteAt_lt s (i + 3)
  show step2 (Utf8.decode s i) = _
  rw [decode_eq]
  by_cases c1 : byteAt s i < 128
  · have : refLen (byteAt s i) = 1 := by simp [refLen, c1]
    rw [if_pos c1, this, step2_one _ c1]
    have hs : ∀ x : Nat, (if (1 : Nat) = 0 then 0 else if contsB s i (1 - 1) = true then x else 0) = x := fun x => by simp [contsB]
    rw [hs]
    simp only [Nat.sub_self, rr0, refHead, refLeast, c1, if_true, Nat.not_lt_zero, false_or]
  · rw [if_neg c1]
    by_cases c2 : 192 ≤ byteAt s i ∧ byteAt s i < 224
    · have d2 : (byteAt s i / 32 == 6) = true := by simp; omega
      have d3 : (byteAt s i / 16 == 14) = false := by simp; omega
      have d4 : (byteAt s i / 8 == 30) = false := by simp; omega
      have hl : refLen (byteAt s i) = 2 := by simp [refLen, c1, c2]
      rw [hl, d2, d3, d4]
      show _ = if (2 : Nat) = 0 then 0 else if contsB s i 1 = true then _ else 0
      rw [conts1]
      cases k1 : contB s (i + 1)
      · simp [step2_bad]
      · have := contB_range k1
        have er : byteAt s i % 32 * 64 + byteAt s (i + 1) % 64 = (byteAt s i - 192) * 64 + (byteAt s (i + 1) - 128) := by omega
        simp only [Bool.and_self, if_true, rr1, rr2, rr3, refHead, refLeast, c1, c2, if_false, Nat.zero_add, Nat.reduceSub, and_self]
        rw [er]
        generalize (byteAt s i - 192) * 64 + (byteAt s (i + 1) - 128) = r
        by_cases hr : 128 ≤ r
        · rw [if_pos (by omega), step2_many _ _ (by omega)]
          simp [show ¬ r < 128 by omega]
        · rw [if_neg (by omega), step2_bad]
          simp [show r < 128 by omega]
    · have d2 : (byteAt s i / 32 == 6) = false := by simp; omega
      by_cases c3 : 224 ≤ byteAt s i ∧ byteAt s i < 240
      · have d3 : (byteAt s i / 16 == 14) = true := by simp; omega
        have d4 : (byteAt s i / 8 == 30) = false := by simp; omega
        have hl : refLen (byteAt s i) = 3 := by simp [refLen, c1, c2, c3]
        rw [hl, d2, d3, d4]
        show _ = if (3 : Nat) = 0 then 0 else if contsB s i 2 = true then _ else 0
        rw [conts2]
        cases k1 : contB s (i + 1)
        · simp [step2_bad]
        · cases k2 : contB s (i + 2)
          · simp [step2_bad]
          · have := contB_range k1
            have := contB_range k2
            have er : byteAt s i % 16 * 4096 + byteAt s (i + 1) % 64 * 64 + byteAt s (i + 2) % 64 = ((byteAt s i - 224) * 64 + (byteAt s (i + 1) - 128)) * 64 + (byteAt s (i + 2) - 128) := by omega
            simp only [Bool.and_self, Bool.false_and, if_true, rr1, rr2, rr3, refHead, refLeast, c1, c2, c3, if_false, Nat.zero_add, Nat.reduceSub, and_self, Nat.reduceAdd, Bool.false_eq_true]
            rw [er]
            generalize ((byteAt s i - 224) * 64 + (byteAt s (i + 1) - 128)) * 64 + (byteAt s (i + 2) - 128) = r
            rw [three _ _ _ (by omega)]
            simp
      · have d3 : (byteAt s i / 16 == 14) = false := by simp; omega
        by_cases c4 : 240 ≤ byteAt s i ∧ byteAt s i < 248
        · have d4 : (byteAt s i / 8 == 30) = true := by simp; omega
          have hl : refLen (byteAt s i) = 4 := by simp [refLen, c1, c2, c3, c4]
          rw [hl, d2, d3, d4]
          show _ = if (4 : Nat) = 0 then 0 else if contsB s i 3 = true then _ else 0
          rw [conts3]
          cases k1 : contB s (i + 1)
          · simp [step2_bad]
          · cases k2 : contB s (i + 2)
            · simp [step2_bad]
            · cases k3 : contB s (i + 3)
              · simp [step2_bad]
              · have := contB_range k1
                have := contB_range k2
                have := contB_range k3
                have er : byteAt s i % 8 * 262144 + byteAt s (i + 1) % 64 * 4096 + byteAt s (i + 2) % 64 * 64 + byteAt s (i + 3) % 64 = (((byteAt s i - 240) * 64 + (byteAt s (i + 1) - 128)) * 64 + (byteAt s (i + 2) - 128)) * 64 + (byteAt s (i + 3) - 128) := by omega
                simp only [Bool.and_self, Bool.false_and, if_true, rr1, rr2, rr3, refHead, refLeast, c1, c2, c3, if_false, Nat.zero_add, Nat.reduceSub, Nat.reduceAdd, Bool.false_eq_true]
                rw [er]
                generalize (((byteAt s i - 240) * 64 + (byteAt s (i + 1) - 128)) * 64 + (byteAt s (i + 2) - 128)) * 64 + (byteAt s (i + 3) - 128) = r
                rw [three _ _ _ (by omega)]
                simp
        · have d4 : (byteAt s i / 8 == 30) = false := by simp; omega
          have hl : refLen (byteAt s i) = 0 := by simp [refLen, c1, c2, c3, c4]
          rw [hl, d2, d3, d4]
          simp [step2_bad]
theorem contsB_false (s : ByteArray) (i j : Nat) (h1 : 1 ≤ j) (hj : contB s (i + j) = false) : ∀ k, j ≤ k → contsB s i k = false := by
  intro k
  induction k with
  | zero => intro h; omega
  | succ k ih =>
    intro h
    show (contsB s i k && contB s (i + (k + 1))) = false
    by_cases e : j = k + 1
    · rw [← e, hj, Bool.and_false]
    · rw [ih (by omega), Bool.false_and]
theorem contsB_succ (s : ByteArray) (i k : Nat) (h : contsB s i k = true) (hk : contB s (i + (k + 1)) = true) : contsB s i (k + 1) = true := by
  show (contsB s i k && contB s (i + (k + 1))) = true
  rw [h, hk]; rfl
theorem refRune_succ (s : ByteArray) (i k : Nat) : refRune s i (k + 1) = refRune s i k * 64 + (byteAt s (i + (k + 1)) - 128) := rfl
theorem refRune_lt (s : ByteArray) (i : Nat) : ∀ k, refRune s i k < 256 * 192 ^ k
  | 0 => by
    show refHead (byteAt s i) < _
    have := byteAt_lt s i
    unfold refHead
    repeat' split
    all_goals simp
    all_goals omega
  | k + 1 => by
    have h1 := refRune_lt s i k
    have h2 := byteAt_lt s (i + (k + 1))
    have h3 : 0 < 192 ^ k := Nat.pow_pos (by omega)
    rw [refRune_succ, Nat.pow_succ]
    omega
theorem pow192 (k : Nat) (h : k ≤ 3) : 256 * 192 ^ k ≤ 1811939328 := by
  have : 192 ^ k ≤ 192 ^ 3 := Nat.pow_le_pow_right (by omega) h
  have e : 192 ^ 3 = 7077888 := rfl
  omega
theorem refRune_lt3 (s : ByteArray) (i k : Nat) (h : k ≤ 3) : refRune s i k < 1811939328 := Nat.lt_of_lt_of_le (refRune_lt s i k) (pow192 k h)
theorem refRune_zero (s : ByteArray) (i : Nat) : refRune s i 0 = refHead (byteAt s i) := rfl
/-- what a sign's look comes to, case by case -/
theorem stepN_no (s : ByteArray) (i : Nat) (h : refLen (byteAt s i) = 0) : stepN s i = 0 := by rw [stepN_ref, if_pos h]
theorem stepN_conts (s : ByteArray) (i : Nat) (h : contsB s i (refLen (byteAt s i) - 1) = false) : stepN s i = 0 := by
  rw [stepN_ref]; by_cases h0 : refLen (byteAt s i) = 0
  · rw [if_pos h0]
  · rw [if_neg h0, if_neg (by rw [h]; simp)]
theorem stepN_low (s : ByteArray) (i : Nat) (h : refRune s i (refLen (byteAt s i) - 1) < refLeast (byteAt s i) ∨ signB (refRune s i (refLen (byteAt s i) - 1)) = false) : stepN s i = 0 := by
  rw [stepN_ref]; by_cases h0 : refLen (byteAt s i) = 0
  · rw [if_pos h0]
  · rw [if_neg h0]
    by_cases hc : contsB s i (refLen (byteAt s i) - 1) = true
    · rw [if_pos hc, if_pos h]
    · rw [if_neg hc]
theorem stepN_yes (s : ByteArray) (i : Nat) (h0 : 1 ≤ refLen (byteAt s i)) (hc : contsB s i (refLen (byteAt s i) - 1) = true) (h : ¬ (refRune s i (refLen (byteAt s i) - 1) < refLeast (byteAt s i))) (hs : signB (refRune s i (refLen (byteAt s i) - 1)) = true) : stepN s i = refLen (byteAt s i) := by
  rw [stepN_ref, if_neg (by omega), if_pos hc, if_neg (by rw [hs]; simp; omega)]

theorem byteAt_extract (s : ByteArray) (i k : Nat) : byteAt (s.extract i s.size) k = byteAt s (i + k) := by
  unfold byteAt
  congr 1
  by_cases h : i + k < s.size
  · have hk : k < (s.extract i s.size).size := by simp [ByteArray.size_extract]; omega
    show (s.extract i s.size).data[k]! = s.data[i + k]!
    have e1 : (s.extract i s.size).data[k]! = (s.extract i s.size).data[k]'hk := getElem!_pos _ _ _
    have e2 : s.data[i + k]! = s.data[i + k]'h := getElem!_pos _ _ _
    rw [e1, e2]
    simp [ByteArray.data_extract]
  · have h' : ¬ k < (s.extract i s.size).size := by simp [ByteArray.size_extract]; omega
    show (s.extract i s.size).data[k]! = s.data[i + k]!
    have e1 : (s.extract i s.size).data[k]! = default := getElem!_neg _ _ h'
    have e2 : s.data[i + k]! = default := getElem!_neg _ _ h
    rw [e1, e2]
theorem contB_extract (s : ByteArray) (i k : Nat) : contB (s.extract i s.size) k = contB s (i + k) := by
  unfold contB
  rw [byteAt_extract]
  have : decide (k < (s.extract i s.size).size) = decide (i + k < s.size) := by
    rw [decide_eq_decide]; simp [ByteArray.size_extract]; omega
  rw [this]
theorem decode_extract (s : ByteArray) (i : Nat) : Utf8.decode (s.extract i s.size) 0 = Utf8.decode s i := by
  rw [decode_eq, decode_eq]
  simp only [byteAt_extract, contB_extract, Nat.zero_add, Nat.add_zero]

/-- is a text good from a place on? -/
def goodFrom (s : ByteArray) : Nat → Nat → Bool
  | 0, _ => true
  | f + 1, i => if i < s.size then (if stepN s i = 0 then false else goodFrom s f (i + stepN s i)) else true
def goodB (s : ByteArray) : Bool := goodFrom s s.size 0
theorem goodFrom_out (s : ByteArray) (f i : Nat) (h : ¬ i < s.size) : goodFrom s f i = true := by
  cases f with
  | zero => rfl
  | succ f => show (if i < s.size then _ else true) = true; rw [if_neg h]
theorem goodFrom_bad (s : ByteArray) (f i : Nat) (h : i < s.size) (hf : s.size - i ≤ f) (h0 : stepN s i = 0) : goodFrom s f i = false := by
  obtain ⟨f, rfl⟩ : ∃ g, f = g + 1 := ⟨f - 1, by omega⟩
  show (if i < s.size then (if stepN s i = 0 then false else _) else true) = false
  rw [if_pos h, if_pos h0]
theorem goodFrom_step (s : ByteArray) (f i : Nat) (h : i < s.size) (hf : s.size - i ≤ f) (h0 : stepN s i ≠ 0) : ∃ g, g < f ∧ s.size - (i + stepN s i) ≤ g ∧ goodFrom s f i = goodFrom s g (i + stepN s i) := by
  obtain ⟨f, rfl⟩ : ∃ g, f = g + 1 := ⟨f - 1, by omega⟩
  refine ⟨f, by omega, by omega, ?_⟩
  show (if i < s.size then (if stepN s i = 0 then false else _) else true) = _
  rw [if_pos h, if_neg h0]
end Go.Proofs.YtfhmjkdpohepaaaDoor
