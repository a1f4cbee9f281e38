import GoSem.Core.Utf8
import Derived.Test.YthicilfhnakhmaaGreatDoorPk01
import Derived.Test.YthicilfhnakhmaaGreatDoorShelf
/- The signs that may stand in XML, byte by byte and by the model's decoder: plain. -/
set_option linter.unusedSimpArgs false
set_option linter.unusedVariables false
namespace Go.Proofs.YthicilfhnakhmaaGreatDoor

/-- the signs that may stand in XML -/
def signB (r : Nat) : Bool := r == 9 || r == 10 || r == 13 || (32 ≤ r && r ≤ 55295) || (57344 ≤ r && r ≤ 65533) || (65536 ≤ r && r ≤ 1114111)

/-- how many bytes the sign at a place has; 0: none that may stand -/
def stepN (s : ByteArray) (i : Nat) : Nat :=
  if ((Utf8.decode s i).1 == 65533 && (Utf8.decode s i).2 == 1) || !signB (Utf8.decode s i).1 then 0 else (Utf8.decode s i).2

def byteAt (s : ByteArray) (i : Nat) : Nat := (s.get! i).toNat

def refLen (b : Nat) : Nat := if b < 128 then 1 else if 192 ≤ b ∧ b < 224 then 2 else if 224 ≤ b ∧ b < 240 then 3 else if 240 ≤ b ∧ b < 248 then 4 else 0
def refHead (b : Nat) : Nat := if b < 128 then b else if 192 ≤ b ∧ b < 224 then b - 192 else if 224 ≤ b ∧ b < 240 then b - 224 else b - 240
def refLeast (b : Nat) : Nat := if b < 128 then 0 else if 192 ≤ b ∧ b < 224 then 128 else if 224 ≤ b ∧ b < 240 then 2048 else 65536
/-- is the k-th byte behind a place one that goes on? -/
def contB (s : ByteArray) (i : Nat) : Bool := i < s.size && 128 ≤ byteAt s i && byteAt s i < 192
/-- the first k bytes behind a head taken in -/
def refRune (s : ByteArray) (i : Nat) : Nat → Nat
  | 0 => refHead (byteAt s i)
  | k + 1 => refRune s i k * 64 + (byteAt s (i + (k + 1)) - 128)
def contsB (s : ByteArray) (i : Nat) : Nat → Bool
  | 0 => true
  | k + 1 => contsB s i k && contB s (i + (k + 1))

theorem byteAt_lt (s : ByteArray) (i : Nat) : byteAt s i < 256 := UInt8.toNat_lt _

theorem div64 (c : Nat) (h : c < 256) : (c / 64 == 2) = (decide (128 ≤ c) && decide (c < 192)) := by
  rw [Bool.eq_iff_iff]; simp; omega



def step2 (d : Nat × Nat) : Nat := if (d.1 == 65533 && d.2 == 1) || !signB d.1 then 0 else d.2
theorem step2_bad : step2 (Utf8.runeError, 1) = 0 := by unfold step2 Utf8.runeError; simp
theorem step2_one (r : Nat) (h : r < 128) : step2 (r, 1) = if signB r = false then 0 else 1 := by
  have : (r == 65533) = false := by simp; omega
  unfold step2; simp [this]
theorem step2_many (r n : Nat) (h : 2 ≤ n) : step2 (r, n) = if signB r = false then 0 else n := by
  have : (n == 1) = false := by simp; omega
  unfold step2; simp [this]
theorem signB_valid (r : Nat) (h : signB r = true) : Utf8.valid (r : Int) = true := by
  simp [signB] at h
  simp [Utf8.valid]
  omega
theorem conts1 (s : ByteArray) (i : Nat) : contsB s i 1 = contB s (i + 1) := by simp [contsB]
theorem conts2 (s : ByteArray) (i : Nat) : contsB s i 2 = (contB s (i + 1) && contB s (i + 2)) := by simp [contsB]
theorem conts3 (s : ByteArray) (i : Nat) : contsB s i 3 = (contB s (i + 1) && contB s (i + 2) && contB s (i + 3)) := by simp [contsB]
theorem cont_eq (s : ByteArray) (i : Nat) : (decide (i < s.size) && (byteAt s i / 64 == 2)) = contB s i := by
  rw [div64 _ (byteAt_lt s i)]; unfold contB; rw [Bool.and_assoc]
theorem contB_range {s : ByteArray} {i : Nat} (h : contB s i = true) : 128 ≤ byteAt s i ∧ byteAt s i < 192 := by
  simp [contB] at h; omega

set_option maxRecDepth 100000 in
theorem decode_eq (s : ByteArray) (i : Nat) : Utf8.decode s i =
    (if byteAt s i < 128 then (byteAt s i, 1)
     else if (byteAt s i / 32 == 6 && contB s (i + 1)) = true then
       (if byteAt s i % 32 * 64 + byteAt s (i + 1) % 64 ≥ 128 then (byteAt s i % 32 * 64 + byteAt s (i + 1) % 64, 2) else (Utf8.runeError, 1))
     else if (byteAt s i / 16 == 14 && contB s (i + 1) && contB s (i + 2)) = true then
       (if (decide (byteAt s i % 16 * 4096 + byteAt s (i + 1) % 64 * 64 + byteAt s (i + 2) % 64 ≥ 2048) && Utf8.valid ((byteAt s i % 16 * 4096 + byteAt s (i + 1) % 64 * 64 + byteAt s (i + 2) % 64 : Nat) : Int)) = true then (byteAt s i % 16 * 4096 + byteAt s (i + 1) % 64 * 64 + byteAt s (i + 2) % 64, 3) else (Utf8.runeError, 1))
     else if (byteAt s i / 8 == 30 && contB s (i + 1) && contB s (i + 2) && contB s (i + 3)) = true then
       (if (decide (byteAt s i % 8 * 262144 + byteAt s (i + 1) % 64 * 4096 + byteAt s (i + 2) % 64 * 64 + byteAt s (i + 3) % 64 ≥ 65536) && Utf8.valid ((byteAt s i % 8 * 262144 + byteAt s (i + 1) % 64 * 4096 + byteAt s (i + 2) % 64 * 64 + byteAt s (i + 3) % 64 : Nat) : Int)) = true then (byteAt s i % 8 * 262144 + byteAt s (i + 1) % 64 * 4096 + byteAt s (i + 2) % 64 * 64 + byteAt s (i + 3) % 64, 4) else (Utf8.runeError, 1))
     else (Utf8.runeError, 1)) := by
  rw [← cont_eq, ← cont_eq, ← cont_eq]
  have e0 : (s.get! (i + 0)).toNat = byteAt s i := rfl
  have e1 : (s.get! (i + 1)).toNat = byteAt s (i + 1) := rfl
  have e2 : (s.get! (i + 2)).toNat = byteAt s (i + 2) := rfl
  have e3 : (s.get! (i + 3)).toNat = byteAt s (i + 3) := rfl
  unfold Utf8.decode
  simp only [e0, e1, e2, e3]

theorem rr0 (s : ByteArray) (i : Nat) : refRune s i 0 = refHead (byteAt s i) := rfl
theorem rr1 (s : ByteArray) (i : Nat) : refRune s i 1 = refHead (byteAt s i) * 64 + (byteAt s (i + 1) - 128) := rfl
theorem rr2 (s : ByteArray) (i : Nat) : refRune s i 2 = (refHead (byteAt s i) * 64 + (byteAt s (i + 1) - 128)) * 64 + (byteAt s (i + 2) - 128) := rfl
theorem rr3 (s : ByteArray) (i : Nat) : refRune s i 3 = ((refHead (byteAt s i) * 64 + (byteAt s (i + 1) - 128)) * 64 + (byteAt s (i + 2) - 128)) * 64 + (byteAt s (i + 3) - 128) := rfl

theorem decode_pos (s : ByteArray) (i : Nat) : 1 ≤ (Utf8.decode s i).2 := by
  rw [decode_eq]
  repeat' split
  all_goals simp

theorem three (r : Nat) (n m : Nat) (hn : 2 ≤ n) : step2 (if (decide (r ≥ m) && Utf8.valid (r : Int)) = true then (r, n) else (Utf8.runeError, 1)) = if r < m ∨ signB r = false then 0 else n := by
  by_cases hr : m ≤ r
  · cases hv : Utf8.valid (r : Int)
    · have : signB r = false := by
        cases hs : signB r
        · rfl
        · have := signB_valid r hs; rw [hv] at this; cases this
      simp [this, step2_bad]
    · simp only [ge_iff_le, hr, decide_true, Bool.and_self, if_true]
      rw [step2_many _ _ hn]
      simp [show ¬ r < m by omega]
  · simp [hr, show r < m by omega, step2_bad]

theorem stepN_ref (s : ByteArray) (i : Nat) :
    stepN s i = if refLen (byteAt s i) = 0 then 0 else if contsB s i (refLen (byteAt s i) - 1) = true then
      (if refRune s i (refLen (byteAt s i) - 1) < refLeast (byteAt s i) ∨ signB (refRune s i (refLen (byteAt s i) - 1)) = false then 0 else refLen (byteAt s i)) else 0 := by
  have h0 := byteAt_lt s i
  have h1 := byteAt_lt s (i + 1)
  have h2 := byteAt_lt s (i + 2)
  have h3 := byteAt_lt s (i + 3)
  show step2 (Utf8.decode s i) = _
  rw [decode_eq]
  by_cases c1 : byteAt s i < 128
  · have : refLen (byteAt s i) = 1 := by simp [refLen, c1]
    rw [if_pos c1, this, step2_one _ c1]
    have hs : ∀ x : Nat, (if (1 : Nat) = 0 then 0 else if contsB s i (1 - 1) = true then x else 0) = x := fun x => by simp [contsB]
    rw [hs]
    simp only [Nat.sub_self, rr0, refHead, refLeast, c1, if_true, Nat.not_lt_zero, false_or]
  · rw [if_neg c1]
    by_cases c2 : 192 ≤ byteAt s i ∧ byteAt s i < 224
    · have d2 : (byteAt s i / 32 == 6) = true := by simp; omega
      have d3 : (byteAt s i / 16 == 14) = false := by simp; omega
      have d4 : (byteAt s i / 8 == 30) = false := by simp; omega
      have hl : refLen (byteAt s i) = 2 := by simp [refLen, c1, c2]
      rw [hl, d2, d3, d4]
      show _ = if (2 : Nat) = 0 then 0 else if contsB s i 1 = true then _ else 0
      rw [conts1]
      cases k1 : contB s (i + 1)
      · simp [step2_bad]
      · have := contB_range k1
        have er : byteAt s i % 32 * 64 + byteAt s (i + 1) % 64 = (byteAt s i - 192) * 64 + (byteAt s (i + 1) - 128) := by omega
        simp only [Bool.and_self, if_true, rr1, rr2, rr3, refHead, refLeast, c1, c2, if_false, Nat.zero_add, Nat.reduceSub, and_self]
        rw [er]
        generalize (byteAt s i - 192) * 64 + (byteAt s (i + 1) - 128) = r
        by_cases hr : 128 ≤ r
        · rw [if_pos (by omega), step2_many _ _ (by omega)]
          simp [show ¬ r < 128 by omega]
        · rw [if_neg (by omega), step2_bad]
          simp [show r < 128 by omega]
    · have d2 : (byteAt s i / 32 == 6) = false := by simp; omega
      by_cases c3 : 224 ≤ byteAt s i ∧ byteAt s i < 240
      · have d3 : (byteAt s i / 16 == 14) = true := by simp; omega
        have d4 : (byteAt s i / 8 == 30) = false := by simp; omega
        have hl : refLen (byteAt s i) = 3 := by simp [refLen, c1, c2, c3]
        rw [hl, d2, d3, d4]
        show _ = if (3 : Nat) = 0 then 0 else if contsB s i 2 = true then _ else 0
        rw [conts2]
        cases k1 : contB s (i + 1)
        · simp [step2_bad]
        · cases k2 : contB s (i + 2)
          · simp [step2_bad]
          · have := contB_range k1
            have := contB_range k2
            have er : byteAt s i % 16 * 4096 + byteAt s (i + 1) % 64 * 64 + byteAt s (i + 2) % 64 = ((byteAt s i - 224) * 64 + (byteAt s (i + 1) - 128)) * 64 + (byteAt s (i + 2) - 128) := by omega
            simp only [Bool.and_self, Bool.false_and, if_true, rr1, rr2, rr3, refHead, refLeast, c1, c2, c3, if_false, Nat.zero_add, Nat.reduceSub, and_self, Nat.reduceAdd, Bool.false_eq_true]
            rw [er]
            generalize ((byteAt s i - 224) * 64 + (byteAt s (i + 1) - 128)) * 64 + (byteAt s (i + 2) - 128) = r
            rw [three _ _ _ (by omega)]
            simp
      · have d3 : (byteAt s i / 16 == 14) = false := by simp; omega
        by_cases c4 : 240 ≤ byteAt s i ∧ byteAt s i < 248
        · have d4 : (byteAt s i / 8 == 30) = true := by simp; omega
          have hl : refLen (byteAt s i) = 4 := by simp [refLen, c1, c2, c3, c4]
          rw [hl, d2, d3, d4]
          show _ = if (4 : Nat) = 0 then 0 else if contsB s i 3 = true then _ else 0
          rw [conts3]
          cases k1 : contB s (i + 1)
          · simp [step2_bad]
          · cases k2 : contB s (i + 2)
            · simp [step2_bad]
            · cases k3 : contB s (i + 3)
              · simp [step2_bad]
              · have := contB_range k1
                have := contB_range k2
                have := contB_range k3
                have er : byteAt s i % 8 * 262144 + byteAt s (i + 1) % 64 * 4096 + byteAt s (i + 2) % 64 * 64 + byteAt s (i + 3) % 64 = (((byteAt s i - 240) * 64 + (byteAt s (i + 1) - 128)) * 64 + (byteAt s (i + 2) - 128)) * 64 + (byteAt s (i + 3) - 128) := by omega
                simp only [Bool.and_self, Bool.false_and, if_true, rr1, rr2, rr3, refHead, refLeast, c1, c2, c3, if_false, Nat.zero_add, Nat.reduceSub, Nat.reduceAdd, Bool.false_eq_true]
                rw [er]
                generalize (((byteAt s i - 240) * 64 + (byteAt s (i + 1) - 128)) * 64 + (byteAt s (i + 2) - 128)) * 64 + (byteAt s (i + 3) - 128) = r
                rw [three _ _ _ (by omega)]
                simp
        · have d4 : (byteAt s i / 8 == 30) = false := by simp; omega
          have hl : refLen (byteAt s i) = 0 := by simp [refLen, c1, c2, c3, c4]
          rw [hl, d2, d3, d4]
          simp [step2_bad]
theorem contsB_false (s : ByteArray) (i j : Nat) (h1 : 1 ≤ j) (hj : contB s (i + j) = false) : ∀ k, j ≤ k → contsB s i k = false := by
  intro k
  induction k with
  | zero => intro h; omega
  | succ k ih =>
    intro h
    show (contsB s i k && contB s (i + (k + 1))) = false
    by_cases e : j = k + 1
    · rw [← e, hj, Bool.and_false]
    · rw [ih (by omega), Bool.false_and]
theorem contsB_succ (s : ByteArray) (i k : Nat) (h : contsB s i k = true) (hk : contB s (i + (k + 1)) = true) : contsB s i (k + 1) = true := by
  show (contsB s i k && contB s (i + (k + 1))) = true
  rw [h, hk]; rfl
theorem refRune_succ (s : ByteArray) (i k : Nat) : refRune s i (k + 1) = refRune s i k * 64 + (byteAt s (i + (k + 1)) - 128) := rfl
theorem refRune_lt (s : ByteArray) (i : Nat) : ∀ k, refRune s i k < 256 * 192 ^ k
  | 0 => by
    show refHead (byteAt s i) < _
    have := byteAt_lt s i
    unfold refHead
    repeat' split
    all_goals simp
    all_goals omega
  | k + 1 => by
    have h1 := refRune_lt s i k
    have h2 := byteAt_lt s (i + (k + 1))
    have h3 : 0 < 192 ^ k := Nat.pow_pos (by omega)
    rw [refRune_succ, Nat.pow_succ]
    omega
theorem pow192 (k : Nat) (h : k ≤ 3) : 256 * 192 ^ k ≤ 1811939328 := by
  have : 192 ^ k ≤ 192 ^ 3 := Nat.pow_le_pow_right (by omega) h
  have e : 192 ^ 3 = 7077888 := rfl
  omega
theorem refRune_lt3 (s : ByteArray) (i k : Nat) (h : k ≤ 3) : refRune s i k < 1811939328 := Nat.lt_of_lt_of_le (refRune_lt s i k) (pow192 k h)
theorem refRune_zero (s : ByteArray) (i : Nat) : refRune s i 0 = refHead (byteAt s i) := rfl
/-- what a sign's look comes to, case by case -/
theorem stepN_no (s : ByteArray) (i : Nat) (h : refLen (byteAt s i) = 0) : stepN s i = 0 := by rw [stepN_ref, if_pos h]
theorem stepN_conts (s : ByteArray) (i : Nat) (h : contsB s i (refLen (byteAt s i) - 1) = false) : stepN s i = 0 := by
  rw [stepN_ref]; by_cases h0 : refLen (byteAt s i) = 0
  · rw [if_pos h0]
  · rw [if_neg h0, if_neg (by rw [h]; simp)]
theorem stepN_low (s : ByteArray) (i : Nat) (h : refRune s i (refLen (byteAt s i) - 1) < refLeast (byteAt s i) ∨ signB (refRune s i (refLen (byteAt s i) - 1)) = false) : stepN s i = 0 := by
  rw [stepN_ref]; by_cases h0 : refLen (byteAt s i) = 0
  · rw [if_pos h0]
  · rw [if_neg h0]
    by_cases hc : contsB s i (refLen (byteAt s i) - 1) = true
    · rw [if_pos hc, if_pos h]
    · rw [if_neg hc]
theorem stepN_yes (s : ByteArray) (i : Nat) (h0 : 1 ≤ refLen (byteAt s i)) (hc : contsB s i (refLen (byteAt s i) - 1) = true) (h : ¬ (refRune s i (refLen (byteAt s i) - 1) < refLeast (byteAt s i))) (hs : signB (refRune s i (refLen (byteAt s i) - 1)) = true) : stepN s i = refLen (byteAt s i) := by
  rw [stepN_ref, if_neg (by omega), if_pos hc, if_neg (by rw [hs]; simp; omega)]

theorem byteAt_extract (s : ByteArray) (i k : Nat) : byteAt (s.extract i s.size) k = byteAt s (i + k) := by
  unfold byteAt
  congr 1
  by_cases h : i + k < s.size
  · have hk : k < (s.extract i s.size).size := by simp [ByteArray.size_extract]; omega
    show (s.extract i s.size).data[k]! = s.data[i + k]!
    have e1 : (s.extract i s.size).data[k]! = (s.extract i s.size).data[k]'hk := getElem!_pos _ _ _
    have e2 : s.data[i + k]! = s.data[i + k]'h := getElem!_pos _ _ _
    rw [e1, e2]
    simp [ByteArray.data_extract]
  · have h' : ¬ k < (s.extract i s.size).size := by simp [ByteArray.size_extract]; omega
    show (s.extract i s.size).data[k]! = s.data[i + k]!
    have e1 : (s.extract i s.size).data[k]! = default := getElem!_neg _ _ h'
    have e2 : s.data[i + k]! = default := getElem!_neg _ _ h
    rw [e1, e2]
theorem contB_extract (s : ByteArray) (i k : Nat) : contB (s.extract i s.size) k = contB s (i + k) := by
  unfold contB
  rw [byteAt_extract]
  have : decide (k < (s.extract i s.size).size) = decide (i + k < s.size) := by
    rw [decide_eq_decide]; simp [ByteArray.size_extract]; omega
  rw [this]
theorem decode_extract (s : ByteArray) (i : Nat) : Utf8.decode (s.extract i s.size) 0 = Utf8.decode s i := by
  rw [decode_eq, decode_eq]
  simp only [byteAt_extract, contB_extract, Nat.zero_add, Nat.add_zero]

/-- is a text good from a place on? -/
def goodFrom (s : ByteArray) : Nat → Nat → Bool
  | 0, _ => true
  | f + 1, i => if i < s.size then (if stepN s i = 0 then false else goodFrom s f (i + stepN s i)) else true
def goodB (s : ByteArray) : Bool := goodFrom s s.size 0
theorem goodFrom_out (s : ByteArray) (f i : Nat) (h : ¬ i < s.size) : goodFrom s f i = true := by
  cases f with
  | zero => rfl
  | succ f => show (if i < s.size then _ else true) = true; rw [if_neg h]
theorem goodFrom_bad (s : ByteArray) (f i : Nat) (h : i < s.size) (hf : s.size - i ≤ f) (h0 : stepN s i = 0) : goodFrom s f i = false := by
  obtain ⟨f, rfl⟩ : ∃ g, f = g + 1 := ⟨f - 1, by omega⟩
  show (if i < s.size then (if stepN s i = 0 then false else _) else true) = false
  rw [if_pos h, if_pos h0]
theorem goodFrom_step (s : ByteArray) (f i : Nat) (h : i < s.size) (hf : s.size - i ≤ f) (h0 : stepN s i ≠ 0) : ∃ g, g < f ∧ s.size - (i + stepN s i) ≤ g ∧ goodFrom s f i = goodFrom s g (i + stepN s i) := by
  obtain ⟨f, rfl⟩ : ∃ g, f = g + 1 := ⟨f - 1, by omega⟩
  refine ⟨f, by omega, by omega, ?_⟩
  show (if i < s.size then (if stepN s i = 0 then false else _) else true) = _
  rw [if_pos h, if_neg h0]
end Go.Proofs.YthicilfhnakhmaaGreatDoor

/- A value of the program, as Lean data. -/
set_option linter.unusedSimpArgs false
set_option linter.unusedVariables false
namespace Go.Proofs.YthicilfhnakhmaaGreatDoor
open Go.RowKit

/-- a value: its kind, the number's N and Scale, its text, its N -/
structure Vl where
  k : Int
  n : Int
  s : Int
  t : ByteArray
  i : Int
def I64 (x : Int) : Prop := -9223372036854775808 ≤ x ∧ x ≤ 9223372036854775807
structure Vl.wf (v : Vl) : Prop where
  k : I64 v.k
  n : I64 v.n
  s : I64 v.s
  i : I64 v.i
  t : v.t.size ≤ 9223372036854775807
def Vl.zero : Vl := ⟨0, 0, 0, ⟨#[]⟩, 0⟩
/-- may it be a value? -/
def sndB (v : Vl) : Bool :=
  if v.k = 0 then decide (v.n = 0 ∧ v.s = 0 ∧ v.t.toList = [] ∧ v.i = 0)
  else if v.k = 1 then decide (v.t.toList = [] ∧ v.i = 0) && decSnd v.n v.s
  else if v.k = 2 then decide (v.n = 0 ∧ v.s = 0 ∧ v.i = 0 ∧ v.t.size ≤ 256) && goodB v.t
  else if v.k = 3 then decide (v.n = 0 ∧ v.s = 0 ∧ v.t.toList = [] ∧ (v.i = 0 ∨ v.i = 1))
  else if v.k = 4 then decide (v.n = 0 ∧ v.s = 0 ∧ v.t.toList = [] ∧ 0 ≤ v.i ∧ v.i ≤ 3652058)
  else false
end Go.Proofs.YthicilfhnakhmaaGreatDoor

/- The numbers: units, all, Compare. -/
set_option linter.unusedSimpArgs false
set_option linter.unusedVariables false
namespace Go.Proofs.YthicilfhnakhmaaGreatDoor
open Go.RowKit

/-- the error of what may be, or not -/
def okE (b : Bool) : Int := if b = true then 0 else 2
theorem okE_true : okE true = 0 := rfl
theorem okE_false : okE false = 2 := rfl

theorem units_bd {n s : Int} (h1 : -999999999999 ≤ n) (h2 : n ≤ 999999999999) (h3 : 0 ≤ s) (h4 : s ≤ 6) : -999999999999000000 ≤ unitsI n s ∧ unitsI n s ≤ 999999999999000000 := by
  unfold unitsI
  have e : (10 : Int) ^ (6 - s.toNat) = ((10 ^ (6 - s.toNat) : Nat) : Int) := by norm_cast
  have h := Nat.pow_le_pow_right (n := 10) (by omega) (show 6 - s.toNat ≤ 6 by omega)
  rw [e]
  generalize 10 ^ (6 - s.toNat) = q at *
  have e2 : (10 : Nat) ^ 6 = 1000000 := rfl
  obtain ⟨p, hp⟩ : ∃ p : Int, (q : Int) = p := ⟨_, rfl⟩
  have hp : p ≤ 1000000 := by omega
  have h0 : 0 ≤ p := by omega
  rw [show (q : Int) = p by assumption]
  constructor
  · have : -999999999999 * p ≤ n * p := Int.mul_le_mul_of_nonneg_right h1 h0
    omega
  · have : n * p ≤ 999999999999 * p := Int.mul_le_mul_of_nonneg_right h2 h0
    omega

set_option maxHeartbeats 800000 in
theorem units_any (n s : Int) (w : World) (h1 : -999999999999 ≤ n) (h2 : n ≤ 999999999999) (h3 : 0 ≤ s) (h4 : s ≤ 6) :
    Calls Tryz.prog 63 #[.agg #[.int .i64 n, .int .i64 s]] w fun e w' => e = .returned (.int .i64 (unitsI n s)) ∧ Below w.heap.size w w' := by
  obtain ⟨t, rfl⟩ : ∃ t : Nat, s = (t : Int) := ⟨s.toNat, by omega⟩
  have hb := units_bd h1 h2 h3 h4
  have hsub : IntKind.i64.wrap (6 - (t : Int)) = ((6 - t : Nat) : Int) := by rw [IntWalk.i64_in _ (by omega)]; omega
  obtain ⟨p, hp⟩ : ∃ p, 10 ^ (6 - t) = p := ⟨_, rfl⟩
  have hu : unitsI n t = n * (p : Int) := by
    unfold unitsI; rw [← hp, Int.toNat_natCast]; norm_cast
  rw [hu] at hb ⊢
  have HP := Lib.hid hp
  clear hp hu
  have hp2 : p ≤ 1000000 := by
    have h := Nat.pow_le_pow_right (n := 10) (by omega) (show 6 - t ≤ 6 by omega)
    rw [HP.out] at h
    have e2 : (10 : Nat) ^ 6 = 1000000 := rfl
    omega
  go_enter Tryz.func63, Tryz.ntmps63
  go_wp2_with fail
  go_region_held3 (fun w' => w'.cell? ⟨w.heap.size, 0, none⟩ = some (.int .i64 n) ∧ w'.cell? ⟨w.heap.size, 1, none⟩ = some (.int .i64 t)) (go_keep)
    (first
      | (go_at_call 95; refine (power_p (6 - t) p (by omega) HP.out _).mono ?_; rintro e w' ⟨rfl, rfl⟩))
  go_wp2_with fail
  go_ret
  refine ⟨ret_int ?_, bel⟩
  show IntKind.i64.wrap (n * IntKind.i64.wrap (p : Int)) = n * (p : Int)
  rw [IntWalk.i64_in (p : Int) (by omega), IntWalk.i64_in (n * (p : Int)) (by omega)]

set_option maxHeartbeats 800000 in
/-- a row of two numbers in a block of its own -/
theorem all2_any (b : Nat) (n s n' s' : Int) (w : World) (hb : b < w.heap.size)
    (c0 : w.cell? ⟨b, 0, none⟩ = some (.int .i64 n)) (c1 : w.cell? ⟨b, 1, none⟩ = some (.int .i64 s)) (c2 : w.cell? ⟨b, 2, none⟩ = some (.int .i64 n')) (c3 : w.cell? ⟨b, 3, none⟩ = some (.int .i64 s'))
    (hn : I64 n) (hs : I64 s) (hn' : I64 n') (hs' : I64 s') :
    Calls Tryz.prog 45 #[.slice (some ⟨b, 0, none⟩) 2 2] w fun e w' => e = .returned (.int .i64 (okE (decSnd n s && decSnd n' s'))) ∧ Below w.heap.size w w' := by
  go_enter Tryz.func45, Tryz.ntmps45
  go_wp2_with fail
  go_loopg [7] 2 (fun k i wr => ∃ j : Nat, j ≤ 2 ∧ 2 - j ≤ k ∧ (1 ≤ j → Hid (decSnd n s = true)) ∧ (2 ≤ j → Hid (decSnd n' s' = true)) ∧ i = .int .i64 j ∧ Below w.heap.size w wr)
  case atStart => exact ⟨0, by omega, by omega, fun h => by omega, fun h => by omega, rfl, Below.refl _ _⟩
  case round =>
    obtain ⟨j, hj, hjk, g1, g2, rfl, hbel⟩ := hrel
    have hc : ∀ o, wr.cell? ⟨b, o, none⟩ = w.cell? ⟨b, o, none⟩ := fun o => hbel.cell (p := ⟨b, o, none⟩) hb
    have d0 := (hc 0).trans c0
    have d1 := (hc 1).trans c1
    have d2 := (hc 2).trans c2
    have d3 := (hc 3).trans c3
    clear hc
    have hsz := hbel.size
    have hj3 : j = 0 ∨ j = 1 ∨ j = 2 := by omega
    rcases hj3 with rfl | rfl | rfl
    · have I1 := hn
      have I2 := hs
      simp only [I64] at I1 I2
      cases hd : decSnd n s
      · have HF : Hid ((decSnd n s && decSnd n' s') = false) := by show _ = _; rw [hd]; simp
        go_wp2_with fail
        refine (decSound_any n s _ I1.1 I1.2 I2.1 I2.2).mono ?_
        rintro e w1 ⟨rfl, hb1⟩
        rw [hd]
        clear hd I1 I2
        go_wp2_with fail
        go_ret
        exact ⟨ret_int (by rw [HF.out]; rfl), bel⟩
      · have HD := Lib.hid hd
        go_wp2_with fail
        refine (decSound_any n s _ I1.1 I1.2 I2.1 I2.2).mono ?_
        rintro e w1 ⟨rfl, hb1⟩
        rw [hd]
        clear hd I1 I2
        go_wp2_with fail
        go_roundg (gk - 1)
        case measure => omega
        case rel => exact ⟨0 + 1, by omega, by omega, fun _ => HD, fun h => by omega, by go_num, bel⟩
    · have I1 := hn'
      have I2 := hs'
      simp only [I64] at I1 I2
      cases hd : decSnd n' s'
      · have HF : Hid ((decSnd n s && decSnd n' s') = false) := by show _ = _; rw [hd]; simp
        go_wp2_with fail
        refine (decSound_any n' s' _ I1.1 I1.2 I2.1 I2.2).mono ?_
        rintro e w1 ⟨rfl, hb1⟩
        rw [hd]
        clear hd I1 I2
        go_wp2_with fail
        go_ret
        exact ⟨ret_int (by rw [HF.out]; rfl), bel⟩
      · have HD := Lib.hid hd
        go_wp2_with fail
        refine (decSound_any n' s' _ I1.1 I1.2 I2.1 I2.2).mono ?_
        rintro e w1 ⟨rfl, hb1⟩
        rw [hd]
        clear hd I1 I2
        go_wp2_with fail
        go_roundg (gk - 1)
        case measure => omega
        case rel => exact ⟨1 + 1, by omega, by omega, fun _ => g1 (by omega), fun _ => HD, by go_num, bel⟩
    · have HT : Hid ((decSnd n s && decSnd n' s') = true) := by show _ = _; rw [(g1 (by omega)).out, (g2 (by omega)).out]; rfl
      go_wp2_with fail
      go_ret
      exact ⟨ret_int (by rw [HT.out]; rfl), hbel⟩

set_option maxHeartbeats 800000 in
/-- a row of one number in a block of its own -/
theorem all1_any (b : Nat) (n s : Int) (w : World) (hb : b < w.heap.size)
    (c0 : w.cell? ⟨b, 0, none⟩ = some (.int .i64 n)) (c1 : w.cell? ⟨b, 1, none⟩ = some (.int .i64 s))
    (hn : I64 n) (hs : I64 s) :
    Calls Tryz.prog 45 #[.slice (some ⟨b, 0, none⟩) 1 1] w fun e w' => e = .returned (.int .i64 (okE (decSnd n s))) ∧ Below w.heap.size w w' := by
  go_enter Tryz.func45, Tryz.ntmps45
  go_wp2_with fail
  go_loopg [7] 1 (fun k i wr => ∃ j : Nat, j ≤ 1 ∧ 1 - j ≤ k ∧ (1 ≤ j → Hid (decSnd n s = true)) ∧ i = .int .i64 j ∧ Below w.heap.size w wr)
  case atStart => exact ⟨0, by omega, by omega, fun h => by omega, rfl, Below.refl _ _⟩
  case round =>
    obtain ⟨j, hj, hjk, g1, rfl, hbel⟩ := hrel
    have hc : ∀ o, wr.cell? ⟨b, o, none⟩ = w.cell? ⟨b, o, none⟩ := fun o => hbel.cell (p := ⟨b, o, none⟩) hb
    have d0 := (hc 0).trans c0
    have d1 := (hc 1).trans c1
    clear hc
    have hsz := hbel.size
    have hj3 : j = 0 ∨ j = 1 := by omega
    rcases hj3 with rfl | rfl
    · have I1 := hn
      have I2 := hs
      simp only [I64] at I1 I2
      cases hd : decSnd n s
      · have HF : Hid (decSnd n s = false) := hd
        go_wp2_with fail
        refine (decSound_any n s _ I1.1 I1.2 I2.1 I2.2).mono ?_
        rintro e w1 ⟨rfl, hb1⟩
        rw [hd]
        clear hd I1 I2
        go_wp2_with fail
        go_ret
        exact ⟨ret_int (by rw [HF.out]; rfl), bel⟩
      · have HD := Lib.hid hd
        go_wp2_with fail
        refine (decSound_any n s _ I1.1 I1.2 I2.1 I2.2).mono ?_
        rintro e w1 ⟨rfl, hb1⟩
        rw [hd]
        clear hd I1 I2
        go_wp2_with fail
        go_roundg (gk - 1)
        case measure => omega
        case rel => exact ⟨0 + 1, by omega, by omega, fun _ => HD, by go_num, bel⟩
    · have HT : Hid (decSnd n s = true) := (g1 (by omega)).out
      go_wp2_with fail
      go_ret
      exact ⟨ret_int (by rw [HT.out]; rfl), hbel⟩

theorem compareInt_eq (x y : Int) : Lib.compareInt x y = cmpI x y := by
  unfold Lib.compareInt cmpI
  rfl

/-- what Compare hands back -/
def cmpRes (n s n' s' : Int) : Value := if (decSnd n s && decSnd n' s') = true then .tuple #[.int .i64 (cmpD n s n' s'), .int .i64 0] else .tuple #[.int .i64 0, .int .i64 2]
theorem cmpRes_yes {n s n' s' : Int} (h : decSnd n s = true) (h' : decSnd n' s' = true) : cmpRes n s n' s' = .tuple #[.int .i64 (cmpD n s n' s'), .int .i64 0] := by
  unfold cmpRes; rw [h, h']; rfl
theorem cmpRes_no {n s n' s' : Int} (h : (decSnd n s && decSnd n' s') = false) : cmpRes n s n' s' = .tuple #[.int .i64 0, .int .i64 2] := by
  unfold cmpRes; rw [h]; rfl

set_option maxHeartbeats 1600000 in
theorem decCmp_any (n s n' s' : Int) (w : World) (hn : I64 n) (hs : I64 s) (hn' : I64 n') (hs' : I64 s') :
    Calls Tryz.prog 40 #[.agg #[.int .i64 n, .int .i64 s], .agg #[.int .i64 n', .int .i64 s']] w fun e w' => e = .returned (cmpRes n s n' s') ∧ Below w.heap.size w w' := by
  cases hd : (decSnd n s && decSnd n' s')
  · have HF := Lib.hid (cmpRes_no hd)
    go_enter Tryz.func40, Tryz.ntmps40
    go_wp2_with fail
    refine (all2_any _ n s n' s' _ (by first | omega | (simp only [sz_alloc, sz_set, sz_drew, sz_drewN, sz_iterAt, sz_iter] at *; omega) | (simp; done) | (simp; omega) | (simp at *; omega)) (by first | (simp [go_sem]; done) | (simp [go_sem, *]; done)) (by first | (simp [go_sem]; done) | (simp [go_sem, *]; done)) (by first | (simp [go_sem]; done) | (simp [go_sem, *]; done)) (by first | (simp [go_sem]; done) | (simp [go_sem, *]; done)) hn hs hn' hs').mono ?_
    rintro e w1 ⟨rfl, hb1⟩
    rw [hd, okE_false]
    clear hd
    go_wp2_with fail
    go_ret2
    exact ⟨by rw [HF.out]; rfl, bel⟩
  · have hd2 : decSnd n s = true ∧ decSnd n' s' = true := by simpa using hd
    have HF := Lib.hid (cmpRes_yes hd2.1 hd2.2)
    obtain ⟨a1, a2, a3, a4, -⟩ := decSnd_of hd2.1
    obtain ⟨b1, b2, b3, b4, -⟩ := decSnd_of hd2.2
    go_enter Tryz.func40, Tryz.ntmps40
    go_wp2_with fail
    refine (all2_any _ n s n' s' _ (by first | omega | (simp only [sz_alloc, sz_set, sz_drew, sz_drewN, sz_iterAt, sz_iter] at *; omega) | (simp; done) | (simp; omega) | (simp at *; omega)) (by first | (simp [go_sem]; done) | (simp [go_sem, *]; done)) (by first | (simp [go_sem]; done) | (simp [go_sem, *]; done)) (by first | (simp [go_sem]; done) | (simp [go_sem, *]; done)) (by first | (simp [go_sem]; done) | (simp [go_sem, *]; done)) hn hs hn' hs').mono ?_
    rintro e w1 ⟨rfl, hb1⟩
    rw [hd, okE_true]
    clear hd hd2 hn hs hn' hs'
    have hz1 := hb1.size
    try simp at hz1
    obtain ⟨q1_0, l1_0, r1_0⟩ := aft hb1 (w.heap.size)
    obtain ⟨q1_1, l1_1, r1_1⟩ := aft hb1 (w.heap.size + 1)
    go_wp2_with fail
    have kk0 : w1.cell? ⟨w.heap.size, 0, none⟩ = some (.int .i64 n) := cel
    have kk1 : w1.cell? ⟨w.heap.size, 1, none⟩ = some (.int .i64 s) := cel
    have kk2 : w1.cell? ⟨w.heap.size + 1, 0, none⟩ = some (.int .i64 n') := cel
    have kk3 : w1.cell? ⟨w.heap.size + 1, 1, none⟩ = some (.int .i64 s') := cel
    go_region_held3 (fun w' => Below w1.heap.size w1 w' ∧ w'.cell? ⟨w.heap.size, 0, none⟩ = some (.int .i64 n) ∧ w'.cell? ⟨w.heap.size, 1, none⟩ = some (.int .i64 s) ∧ w'.cell? ⟨w.heap.size + 1, 0, none⟩ = some (.int .i64 n') ∧ w'.cell? ⟨w.heap.size + 1, 1, none⟩ = some (.int .i64 s')) ((refine and_keep ?_ (fun hk => ⟨keep_cell hk l1_0 kk0, keep_cell hk l1_0 kk1, keep_cell hk l1_1 kk2, keep_cell hk l1_1 kk3⟩); exact bel))
      (first
        | (go_at_call 63; refine (units_any _ _ _ (by omega) (by omega) (by omega) (by omega)).mono ?_; rintro e w' ⟨rfl, hb'⟩)
        | (go_at_call 39; refine (Tryz.cmp_Compare_int _ _ _).mono ?_; rintro e w' ⟨rfl, rfl⟩))
    rw [compareInt_eq]
    go_wp2_with fail
    go_ret2
    exact ⟨by rw [HF.out]; rfl, bel⟩
end Go.Proofs.YthicilfhnakhmaaGreatDoor

/- The signs: soffit/chars, walked. -/
set_option linter.unusedSimpArgs false
set_option linter.unusedVariables false
namespace Go.Proofs.YthicilfhnakhmaaGreatDoor
open Go.RowKit

set_option maxHeartbeats 400000 in
theorem sign_any (r : Nat) (w : World) (hr : r ≤ 2147483647) :
    Calls Tryz.prog 84 #[.int .i32 r] w fun e w' => e = .returned (.bool (signB r)) ∧ w = w' := by
  go_enter Tryz.func84, Tryz.ntmps84
  go_wp2_with fail
  all_goals go_ret
  all_goals refine ⟨ret_bool ?_, rfl⟩
  all_goals (rw [Bool.eq_iff_iff]; simp [signB]; omega)

/-- where the first sign stands that may not -/
def badFrom (s : ByteArray) : Nat → Nat → Int
  | 0, _ => -1
  | f + 1, i => if i < s.size then (if stepN s i = 0 then (i : Int) else badFrom s f (i + stepN s i)) else -1

theorem extract_go (s : ByteArray) (i : Nat) (h : i < s.size) : Lib.decodeGo (s.extract i s.size) = Utf8.decode s i := by
  unfold Lib.decodeGo
  rw [if_neg (by simp [ByteArray.size_extract]; omega), decode_extract]

theorem goodFrom_bad_iff (s : ByteArray) (f i : Nat) : goodFrom s f i = decide (badFrom s f i < 0) := by
  induction f generalizing i with
  | zero => rfl
  | succ f ih =>
    show (if i < s.size then (if stepN s i = 0 then false else _) else true) = decide ((if i < s.size then (if stepN s i = 0 then (i : Int) else _) else -1) < 0)
    by_cases h : i < s.size
    · rw [if_pos h, if_pos h]
      by_cases h0 : stepN s i = 0
      · rw [if_pos h0, if_pos h0]; simp
      · rw [if_neg h0, if_neg h0]; exact ih _
    · rw [if_neg h, if_neg h]; rfl

set_option maxHeartbeats 800000 in
theorem bad_any (s : ByteArray) (w : World) (hs : s.size ≤ 9223372036854775807) (hE : Env w) :
    Calls Tryz.prog 57 #[.string s] w fun e w' => e = .returned (.int .i64 (badFrom s s.size 0)) ∧ Below w.heap.size w w' := by
  go_enter Tryz.func57, Tryz.ntmps57
  go_wp2_with fail
  go_loopg [] s.size (fun k wr => ∃ i : Nat, s.size - i ≤ k ∧ Hid (badFrom s s.size 0 = badFrom s k i) ∧ wr.heap[w.heap.size]? = some (.stringIter s i) ∧ w.heap.size < wr.heap.size ∧ Below w.heap.size w wr)
  case atStart => exact ⟨0, by omega, rfl, World.iter_heap _ _ _, (by first | omega | (simp only [sz_alloc, sz_set, sz_drew, sz_drewN, sz_iterAt, sz_iter] at *; omega) | (simp; done) | (simp; omega) | (simp at *; omega)), bell⟩
  case round =>
    obtain ⟨i, hik, hbad, hit, hlt, hbel⟩ := hrel
    by_cases h : i < s.size
    · have hn := fun ty => Lib.run_next_any_at (P := Tryz.prog) wr w.heap.size s i ty hit h
      have hx := extract_go s i h
      have hR : (Utf8.decode s i).1 ≤ 2147483647 := decode_le s i
      have hM : 1 ≤ (Utf8.decode s i).2 := decode_pos s i
      have hst : stepN s i = if ((Utf8.decode s i).1 == 65533 && (Utf8.decode s i).2 == 1) || !signB (Utf8.decode s i).1 then 0 else (Utf8.decode s i).2 := rfl
      have hst2 : stepN s i ≠ 0 → stepN s i = (Utf8.decode s i).2 := by
        intro h0; rw [hst] at h0 ⊢; split at h0
        · exact absurd rfl h0
        · rename_i h1; rw [if_neg h1]
      obtain ⟨g, rfl⟩ : ∃ g, gk = g + 1 := ⟨gk - 1, by omega⟩
      have hb1 : badFrom s (g + 1) i = if stepN s i = 0 then (i : Int) else badFrom s g (i + stepN s i) := by
        show (if i < s.size then _ else _) = _
        rw [if_pos h]
      have HX := Lib.hid hx
      have HB1 := Lib.hid hb1
      have HST := Lib.hid hst
      have HST2 := Lib.hid hst2
      clear hx hb1 hst hst2
      generalize hd1 : (Utf8.decode s i).1 = R at *
      generalize hd2 : (Utf8.decode s i).2 = M at *
      have HD1 := Lib.hid hd1
      have HD2 := Lib.hid hd2
      clear hd1 hd2
      go_wp2_with fail
      have hE' : Env (wr.iterAt w.heap.size s (i + M)) := hE.below bell
      refine (Tryz.utf8_DecodeRuneInString _ _ hE'.tabs).mono ?_
      rintro e w1 ⟨rfl, hbw⟩
      rw [HX.out, HD1.out, HD2.out]
      have hz : wr.heap.size ≤ w1.heap.size := by have := hbw.size; rw [sz_iterAt] at this; exact this
      have hit1 : w1.heap[w.heap.size]? = some (.stringIter s (i + M)) := by
        rw [hbw.block _ (by rw [sz_iterAt]; exact hlt)]
        exact Lib.iterAt_heap wr w.heap.size s i (i + M) hit
      have hbel1 : Below w.heap.size w w1 := (below_iterAt hbel (Nat.le_refl _) s (i + M)).trans (hbw.mono (by rw [sz_iterAt]; omega))
      clear hbw hit hn
      -- the sign is asked of whatever stands there but for a broken byte
      have fin : ∀ b : Bool, Hid (b = signB R) → Hid (¬ (R = 65533 ∧ M = 1)) → Hid (stepN s i = if b = true then M else 0) := by
        intro b hb hno
        show stepN s i = _
        rw [HST.out, hb.out]
        have : (R == 65533 && M == 1) = false := by
          rw [Bool.eq_false_iff]; simpa using hno.out
        rw [this]
        cases signB R <;> rfl
      by_cases hr : R = 65533 ∧ M = 1
      · obtain ⟨rfl, rfl⟩ := hr
        go_wp2_with fail
        go_ret
        refine ⟨ret_int ?_, hbel1⟩
        rw [hbad.out, HB1.out, if_pos (HST.out.trans (by simp))]
      · have HR := Lib.hid hr
        by_cases h1 : R = 65533
        · subst h1
          have e1 : ((M : Int) == 1) = false := by simp; omega
          clear hr
          go_wp2_with fail
          refine (sign_any 65533 _ (by omega)).mono ?_
          rintro e w2 ⟨rfl, rfl⟩
          have H0 := fin true rfl HR
          go_wp2_with fail
          go_roundg g
          case measure => omega
          case rel => exact ⟨i + M, by omega, by rw [hbad.out, HB1.out, if_neg (by rw [H0.out]; simp; omega), H0.out]; rfl, hit1, by omega, hbel1⟩
        · have e1 : ((R : Int) == 65533) = false := by simp; omega
          clear hr h1
          go_wp2_with fail
          refine (sign_any R _ hR).mono ?_
          rintro e w2 ⟨rfl, rfl⟩
          cases hsg : signB R
          · have H0 := fin false hsg.symm HR
            clear hsg
            go_wp2_with fail
            go_ret
            refine ⟨ret_int ?_, hbel1⟩
            rw [hbad.out, HB1.out, if_pos (show stepN s i = 0 by rw [H0.out]; rfl)]
          · have H0 := fin true hsg.symm HR
            clear hsg
            go_wp2_with fail
            go_roundg g
            case measure => omega
            case rel => exact ⟨i + M, by omega, by rw [hbad.out, HB1.out, if_neg (by rw [H0.out]; simp; omega), H0.out]; rfl, hit1, by omega, hbel1⟩
    · have hn := fun ty => Lib.run_next_end_at (P := Tryz.prog) wr w.heap.size s i ty hit h
      go_wp2_with fail
      go_ret
      refine ⟨ret_int ?_, hbel⟩
      rw [hbad.out]
      cases gk with
      | zero => rfl
      | succ g => show _ = (if i < s.size then _ else _); rw [if_neg h]

set_option maxHeartbeats 400000 in
theorem good_any (s : ByteArray) (w : World) (hs : s.size ≤ 9223372036854775807) (hE : Env w) :
    Calls Tryz.prog 30 #[.string s] w fun e w' => e = .returned (.bool (goodB s)) ∧ Below w.heap.size w w' := by
  have HG := Lib.hid (goodFrom_bad_iff s s.size 0)
  go_enter Tryz.func30, Tryz.ntmps30
  go_wp2_with fail
  refine (bad_any s _ hs hE).mono ?_
  rintro e w1 ⟨rfl, hb1⟩
  generalize badFrom s s.size 0 = r at *
  go_wp2_with fail
  go_ret
  exact ⟨ret_bool HG.out.symm, hb1⟩
end Go.Proofs.YthicilfhnakhmaaGreatDoor
