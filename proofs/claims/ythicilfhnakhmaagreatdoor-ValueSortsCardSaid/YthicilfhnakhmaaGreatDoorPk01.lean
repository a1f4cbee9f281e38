import Derived.Test.YthicilfhnakhmaaGreatDoorProg
import Derived.WalkKit
import Derived.WalkSpells
import Derived.WalkLawsBesides
import Derived.Lib.Hide
import Derived.Handy
import Derived.Outline
import Derived.Deep.LoopGhost
import Derived.Deep.QuietTactic
import Derived.BigQuiet
import Derived.Deep.RegionWith
import Derived.Deep.RegionHeld3
import Derived.StillTailTactics
import Derived.Deep.DeepCutAuto
import Derived.Deep.CutBlock
import Derived.Deep.DeepFit
import Derived.Deep.DeepMust
import Derived.Deep.Draws
import Derived.BigGuardPart
import Derived.Lib.OthersKept
import Derived.Shelf.Unicode.DecodeSlow
import Init
/- Common imports and small lemmas for the walks. -/
set_option linter.unusedSimpArgs false
set_option linter.unusedVariables false
namespace Go.Proofs.YthicilfhnakhmaaGreatDoor
open Go.RowKit

theorem bcell {W w1 : World} (hb : Below W.heap.size W w1) : (∀ b o, b < W.heap.size → w1.cell? ⟨b, o, none⟩ = W.cell? ⟨b, o, none⟩) ∧ (∀ b o, b < W.heap.size → w1.frozen? ⟨b, o, none⟩ = W.frozen? ⟨b, o, none⟩) :=
  ⟨fun b o h => hb.cell (p := ⟨b, o, none⟩) h, fun b o h => hb.frozen (p := ⟨b, o, none⟩) h⟩
theorem below_drewN {B : Nat} {a w : World} (h : Below B a w) (n : Nat) : Below B a (w.drewN n) := ⟨h.os, h.tape, h.output, h.size, h.block⟩
theorem below_iterAt {B : Nat} {a w : World} (h : Below B a w) {k : Nat} (hk : B ≤ k) (s : ByteArray) (p : Nat) : Below B a (w.iterAt k s p) :=
  ⟨h.os, h.tape, h.output, by have := h.size; simp [World.iterAt]; omega, fun j hj => (Lib.iterAt_other w k j s p (by omega)).trans (h.block j hj)⟩
theorem below_iter {B : Nat} {a w : World} (h : Below B a w) (hB : B ≤ w.heap.size) (s : ByteArray) (p : Nat) : Below B a (w.iter s p) := h.alloc hB _
theorem sz_iter (w : World) (s : ByteArray) (p : Nat) : (w.iter s p).heap.size = w.heap.size + 1 := by simp [World.iter]
theorem sz_iterAt (w : World) (k : Nat) (s : ByteArray) (p : Nat) : (w.iterAt k s p).heap.size = w.heap.size := by simp [World.iterAt]
theorem sz_alloc (w : World) (o : Obj) : (w.alloc o).heap.size = w.heap.size + 1 := by simp
theorem sz_set (w : World) (a : Addr) (v : Value) : (w.setCell a v).heap.size = w.heap.size := by simp [World.setCell]
theorem sz_drew (w : World) : w.drew.heap.size = w.heap.size := rfl
theorem sz_drewN (w : World) (n : Nat) : (w.drewN n).heap.size = w.heap.size := rfl
/-- what every function of the program finds in the world: the tables of the library, the program's null -/
structure Env (w : World) : Prop where
  tabs : Lib.Utf8Tabs 1 2 w
theorem Env.below {w w' : World} (h : Env w) (hb : Below w.heap.size w w') : Env w' where
  tabs := Utf8Tabs_below h.tabs hb
/-- what stays as it was, by the facts at hand -/
theorem bel {B : Nat} {a b : World} (h : Below B a b := by repeat' first | with_reducible (first | exact Below.refl _ _ | assumption | refine Below.drew ?_ | refine below_drewN ?_ _ | refine Below.alloc ?_ ?_ _ | refine Below.setCell ?_ ?_ _ | refine Below.trans ?_ (Below.mono (by assumption) ?_)) | omega | (simp; done) | (simp; omega) | refine Nat.le_trans ?_ (Below.size (by assumption))) : Below B a b := h
theorem bell {B : Nat} {a b : World} (h : Below B a b := by repeat' (first | (with_reducible exact Below.refl _ _) | (with_reducible assumption) | (with_reducible refine Below.drew ?_) | (with_reducible refine below_drewN ?_ _) | (with_reducible refine below_iterAt ?_ ?_ _ _) | (with_reducible refine below_iter ?_ ?_ _ _) | (with_reducible refine Below.alloc ?_ ?_ _) | (with_reducible refine Below.setCell ?_ ?_ _) | (with_reducible refine Below.trans ?_ (Below.mono (by assumption) ?_)) | (simp only [sz_alloc, sz_set, sz_drew, sz_drewN, sz_iterAt, sz_iter] at *; omega) | omega | (simp; done) | (simp; omega) | (apply Below.size; assumption) | (simp only [sz_drew, sz_drewN]; apply Below.size; assumption) | (refine Nat.le_trans ?_ (Below.size (by assumption))))) : Below B a b := h
theorem aft {W w1 : World} (hb : Below W.heap.size W w1) (b : Nat) (h : b < W.heap.size := by first | omega | (simp only [sz_alloc, sz_set, sz_drew, sz_drewN, sz_iterAt, sz_iter] at *; omega) | (simp; done) | (simp; omega) | (simp at *; omega)) :
    (∀ o, w1.cell? ⟨b, o, none⟩ = W.cell? ⟨b, o, none⟩) ∧ b < w1.heap.size ∧ (∀ o, w1.frozen? ⟨b, o, none⟩ = W.frozen? ⟨b, o, none⟩) :=
  ⟨fun o => hb.cell (p := ⟨b, o, none⟩) h, Nat.lt_of_lt_of_le h hb.size, fun o => hb.frozen (p := ⟨b, o, none⟩) h⟩
theorem lsz {b : Nat} {W W' : World} (hE : W' = W) (h : b < W'.heap.size := by first | omega | (simp only [sz_alloc, sz_set, sz_drew, sz_drewN, sz_iterAt, sz_iter] at *; omega) | (simp; done) | (simp; omega) | (simp at *; omega)) : b < W.heap.size := hE ▸ h
theorem cel {w : World} {a : Addr} {v : Value} (h : w.cell? a = some v := by first | (simp [go_sem]; done) | (simp [go_sem, *]; done)) : w.cell? a = some v := h
theorem i64_and1 (n : Int) : bits .and .i64 n 1 = n % 2 := by
  have h1 : (BitVec.ofInt 64 1).toNat = 2 ^ 1 - 1 := by decide
  have key : (BitVec.ofInt 64 n &&& BitVec.ofInt 64 1).toNat = (n % ((2 ^ 64 : Nat) : Int)).toNat % 2 ^ 1 := by
    rw [BitVec.toNat_and, BitVec.toNat_ofInt, h1, Nat.and_two_pow_sub_one_eq_mod]
  show IntKind.i64.wrap ((BitVec.ofInt 64 n &&& BitVec.ofInt 64 1).toNat : Nat) = n % 2
  rw [key, IntKind.wrap_i64]
  omega
theorem and_keep {p q : Prop} (h : p) (f : p → q) : p ∧ q := ⟨h, f h⟩
theorem keep_cell {W w' : World} {b o : Nat} {v : Value} (hk : Below W.heap.size W w') (hl : b < W.heap.size) (hc : W.cell? ⟨b, o, none⟩ = some v) : w'.cell? ⟨b, o, none⟩ = some v :=
  (hk.cell (p := ⟨b, o, none⟩) hl).trans hc
theorem cell_of_block {w : World} {g : Nat} {cs : Array Value} {t : TypeId} {f : Nat × Nat} (h : w.heap[g]? = some (.cells cs t f)) (o : Nat) : w.cell? ⟨g, o, none⟩ = cs[o]? := by
  simp [World.cell?, h]
theorem ret_int {k : IntKind} {a b : Int} (h : a = b) : Ending.returned (.int k a) = .returned (.int k b) := by rw [h]
theorem ret_bool {a b : Bool} (h : a = b) : Ending.returned (.bool a) = .returned (.bool b) := by rw [h]
end Go.Proofs.YthicilfhnakhmaaGreatDoor

/- Numbers of few digits: plain. -/
set_option linter.unusedSimpArgs false
set_option linter.unusedVariables false
namespace Go.Proofs.YthicilfhnakhmaaGreatDoor
/-- the shortest form of n over ten to the power s, n from 0 on -/
def shU : Nat → Nat → Nat × Nat
  | 0, n => (n, 0)
  | s + 1, n => if n % 10 = 0 then shU s (n / 10) else (n, s + 1)
theorem shU_zero (n : Nat) : shU 0 n = (n, 0) := rfl
theorem shU_cut (s n : Nat) (h : n % 10 = 0) : shU (s + 1) n = shU s (n / 10) := by
  show (if n % 10 = 0 then _ else _) = _
  rw [if_pos h]
theorem shU_stop (s n : Nat) (h : n % 10 ≠ 0) : shU (s + 1) n = (n, s + 1) := by
  show (if n % 10 = 0 then _ else _) = _
  rw [if_neg h]
theorem shU_le (s : Nat) : ∀ n, (shU s n).1 ≤ n ∧ (shU s n).2 ≤ s := by
  induction s with
  | zero => intro n; exact ⟨Nat.le_refl _, Nat.le_refl _⟩
  | succ s ih =>
    intro n
    by_cases h : n % 10 = 0
    · rw [shU_cut s n h]
      have := ih (n / 10)
      omega
    · rw [shU_stop s n h]
      exact ⟨Nat.le_refl _, Nat.le_refl _⟩
theorem shU_fix (s n : Nat) : shU s n = (n, s) ↔ (s = 0 ∨ n % 10 ≠ 0) := by
  cases s with
  | zero => simp [shU_zero]
  | succ s =>
    by_cases h : n % 10 = 0
    · rw [shU_cut s n h]
      simp [h]
      intro h1
      have := (shU_le s (n / 10)).2
      rw [h1] at this
      simp at this
      omega
    · simp [shU_stop s n h, h]
theorem shU_val (s : Nat) : ∀ n, (shU s n).1 * 10 ^ (s - (shU s n).2) = n := by
  induction s with
  | zero => intro n; simp [shU_zero]
  | succ s ih =>
    intro n
    by_cases h : n % 10 = 0
    · rw [shU_cut s n h]
      have h1 := (shU_le s (n / 10)).2
      have h2 := ih (n / 10)
      rw [show s + 1 - (shU s (n / 10)).2 = (s - (shU s (n / 10)).2) + 1 by omega, Nat.pow_succ, ← Nat.mul_assoc, h2]
      omega
    · simp [shU_stop s n h]
/-- the sign of a number, times another -/
def sgn (m : Bool) (n : Nat) : Int := if m then -(n : Int) else (n : Int)
def maxCoef : Nat := 999999999999
/-- is n over ten to the power s a number in its shortest form? -/
def decSnd (n s : Int) : Bool := decide (0 ≤ s ∧ s ≤ 6 ∧ -999999999999 ≤ n ∧ n ≤ 999999999999 ∧ (s = 0 ∨ n % 10 ≠ 0))
/-- may n, s be made a number? -/
def decIn (n s : Int) : Bool := decide (0 ≤ s ∧ s ≤ 6 ∧ -999999999999 ≤ n ∧ n ≤ 999999999999)
def mkN (n s : Int) : Int := sgn (decide (n < 0)) (shU s.toNat n.natAbs).1
def mkS (n s : Int) : Int := (shU s.toNat n.natAbs).2
theorem decSnd_in {n s : Int} (h : decSnd n s = true) : decIn n s = true := by
  simp [decSnd] at h; simp [decIn]; omega
theorem decIn_of {n s : Int} (h : decIn n s = true) : 0 ≤ s ∧ s ≤ 6 ∧ -999999999999 ≤ n ∧ n ≤ 999999999999 := by simpa [decIn] using h
theorem decSnd_of {n s : Int} (h : decSnd n s = true) : 0 ≤ s ∧ s ≤ 6 ∧ -999999999999 ≤ n ∧ n ≤ 999999999999 ∧ (s = 0 ∨ n % 10 ≠ 0) := by simpa [decSnd] using h
theorem decIn_snd {n s : Int} (h : decIn n s = true) : decSnd n s = (mkN n s == n && mkS n s == s) := by
  have hi := decIn_of h
  have hf := shU_fix s.toNat n.natAbs
  have hl := shU_le s.toNat n.natAbs
  rw [Bool.eq_iff_iff]
  constructor
  · intro h1
    have h2 := decSnd_of h1
    have := hf.2 (by omega)
    simp [mkN, mkS, this, sgn]
    by_cases hn : n < 0 <;> simp [hn] <;> omega
  · intro h1
    simp only [Bool.and_eq_true, beq_iff_eq, mkN, mkS, sgn] at h1
    have h3 : shU s.toNat n.natAbs = (n.natAbs, s.toNat) := by
      apply Prod.ext
      · by_cases hn : n < 0 <;> simp [hn] at h1 <;> simp <;> omega
      · simp; omega
    have h4 := hf.1 h3
    simp [decSnd]
    omega
theorem not_decIn_snd {n s : Int} (h : decIn n s = false) : decSnd n s = false := by
  cases hs : decSnd n s
  · rfl
  · rw [decSnd_in hs] at h; cases h
/-- -1, 0 or 1 -/
def cmpI (x y : Int) : Int := if x < y then -1 else if y < x then 1 else 0
/-- a number in units of the finest scale -/
def unitsI (n s : Int) : Int := n * 10 ^ (6 - s.toNat)
def cmpD (n s n' s' : Int) : Int := cmpI (unitsI n s) (unitsI n' s')

/-- a digit -/
def dig (x i : Nat) : Nat := x / 10 ^ i % 10
def lessD (a b : Nat → Nat) : Nat → Bool
  | 0 => false
  | k + 1 => if a k = b k then lessD a b k else decide (a k < b k)
theorem lessD_eq (x y k : Nat) : lessD (dig x) (dig y) k = decide (x % 10 ^ k < y % 10 ^ k) := by
  induction k with
  | zero => simp [lessD, Nat.mod_one]
  | succ k ih =>
    have hx := Nat.mod_pow_succ (x := x) (b := 10) (k := k)
    have hy := Nat.mod_pow_succ (x := y) (b := 10) (k := k)
    have lx : x % 10 ^ k < 10 ^ k := Nat.mod_lt _ (Nat.pow_pos (by omega))
    have ly : y % 10 ^ k < 10 ^ k := Nat.mod_lt _ (Nat.pow_pos (by omega))
    show (if dig x k = dig y k then _ else _) = _
    rw [ih, hx, hy]
    unfold dig
    generalize x / 10 ^ k % 10 = a
    generalize y / 10 ^ k % 10 = b
    generalize 10 ^ k = p at *
    generalize x % p = x' at *
    generalize y % p = y' at *
    by_cases h : a = b
    · subst h
      rw [if_pos rfl, decide_eq_decide]
      omega
    · rw [if_neg h, decide_eq_decide]
      constructor
      · intro hlt
        have : p * (a + 1) ≤ p * b := Nat.mul_le_mul_left p hlt
        rw [Nat.mul_add] at this
        omega
      · intro hlt
        by_cases hab : a < b
        · exact hab
        · have : p * (b + 1) ≤ p * a := Nat.mul_le_mul_left p (by omega)
          rw [Nat.mul_add] at this
          omega
theorem dig_shift (n e j : Nat) : dig (n * 10 ^ e) j = if j < e then 0 else dig n (j - e) := by
  unfold dig
  by_cases h : j < e
  · rw [if_pos h]
    obtain ⟨d, rfl⟩ : ∃ d, e = j + (d + 1) := ⟨e - j - 1, by omega⟩
    rw [Nat.pow_add, ← Nat.mul_assoc, Nat.mul_right_comm, Nat.mul_div_cancel _ (Nat.pow_pos (by omega)), Nat.pow_succ, ← Nat.mul_assoc]
    omega
  · rw [if_neg h]
    obtain ⟨d, rfl⟩ : ∃ d, j = e + d := ⟨j - e, by omega⟩
    rw [Nat.pow_add, ← Nat.div_div_eq_div_mul, Nat.mul_div_cancel _ (Nat.pow_pos (by omega)), Nat.add_sub_cancel_left]
theorem dig_out (n i k : Nat) (h : n < 10 ^ k) (hi : k ≤ i) : dig n i = 0 := by
  unfold dig
  rw [Nat.div_eq_of_lt (Nat.lt_of_lt_of_le h (Nat.pow_le_pow_right (by omega) hi))]
/-- the row that 'long' makes -/
def longF (n s : Nat) (j : Nat) : Nat := if 12 - s ≤ j ∧ j < 24 - s then dig n (j - (12 - s)) else 0
theorem longF_eq (n s j : Nat) (h : n < 10 ^ 12) (hs : s ≤ 6) : longF n s j = dig (n * 10 ^ (12 - s)) j := by
  rw [dig_shift]
  unfold longF
  by_cases h1 : j < 12 - s
  · rw [if_pos h1, if_neg (by omega)]
  · rw [if_neg h1]
    by_cases h2 : j < 24 - s
    · rw [if_pos ⟨by omega, h2⟩]
    · rw [if_neg (by omega), dig_out n _ 12 h (by omega)]
theorem lessD_congr {a b a' b' : Nat → Nat} {k : Nat} (ha : ∀ j, j < k → a j = a' j) (hb : ∀ j, j < k → b j = b' j) : lessD a b k = lessD a' b' k := by
  induction k with
  | zero => rfl
  | succ k ih =>
    show (if a k = b k then _ else _) = (if a' k = b' k then _ else _)
    rw [ih (fun j hj => ha j (by omega)) (fun j hj => hb j (by omega)), ha k (by omega), hb k (by omega)]
theorem shift_lt (n s : Nat) (h : n < 10 ^ 12) : n * 10 ^ (12 - s) < 10 ^ 60 := by
  have h1 : 10 ^ (12 - s) ≤ 10 ^ 12 := Nat.pow_le_pow_right (by omega) (by omega)
  calc n * 10 ^ (12 - s) < 10 ^ 12 * 10 ^ (12 - s) := Nat.mul_lt_mul_of_pos_right h (Nat.pow_pos (by omega))
    _ ≤ 10 ^ 12 * 10 ^ 12 := Nat.mul_le_mul_left _ h1
    _ ≤ 10 ^ 60 := by decide
theorem less_long (n s n' s' : Nat) (h : n < 10 ^ 12) (h' : n' < 10 ^ 12) (hs : s ≤ 6) (hs' : s' ≤ 6) :
    lessD (longF n s) (longF n' s') 60 = decide (n * 10 ^ (6 - s) < n' * 10 ^ (6 - s')) := by
  rw [lessD_congr (fun j _ => longF_eq n s j h hs) (fun j _ => longF_eq n' s' j h' hs'), lessD_eq, Nat.mod_eq_of_lt (shift_lt n s h), Nat.mod_eq_of_lt (shift_lt n' s' h')]
  rw [decide_eq_decide, show 12 - s = (6 - s) + 6 by omega, show 12 - s' = (6 - s') + 6 by omega, Nat.pow_add, Nat.pow_add, ← Nat.mul_assoc, ← Nat.mul_assoc]
  omega
theorem unitsI_abs (n s : Int) : unitsI n s = (if n < 0 then -1 else 1) * ((n.natAbs * 10 ^ (6 - s.toNat) : Nat) : Int) := by
  unfold unitsI
  have hp : ((10 ^ (6 - s.toNat) : Nat) : Int) = (10 : Int) ^ (6 - s.toNat) := by norm_cast
  rw [Int.natCast_mul, hp, ← Int.mul_assoc]
  congr 1
  by_cases h : n < 0 <;> simp [h] <;> omega
/-- what soffitref01.Compare comes to -/
def refCmp (n s n' s' : Int) : Int :=
  if n < 0 ∧ 0 ≤ n' then -1 else if 0 ≤ n ∧ n' < 0 then 1 else
  if lessD (longF n.natAbs s.toNat) (longF n'.natAbs s'.toNat) 60 = true then (if n < 0 then 1 else -1)
  else if lessD (longF n'.natAbs s'.toNat) (longF n.natAbs s.toNat) 60 = true then (if n < 0 then -1 else 1) else 0
theorem refCmp_eq {n s n' s' : Int} (h : decSnd n s = true) (h' : decSnd n' s' = true) : refCmp n s n' s' = cmpD n s n' s' := by
  obtain ⟨a1, a2, a3, a4, -⟩ := decSnd_of h
  obtain ⟨b1, b2, b3, b4, -⟩ := decSnd_of h'
  have e1 := less_long n.natAbs s.toNat n'.natAbs s'.toNat (by omega) (by omega) (by omega) (by omega)
  have e2 := less_long n'.natAbs s'.toNat n.natAbs s.toNat (by omega) (by omega) (by omega) (by omega)
  unfold refCmp cmpD cmpI
  rw [e1, e2, unitsI_abs, unitsI_abs]
  have p1 : 0 < 10 ^ (6 - s.toNat) := Nat.pow_pos (by omega)
  have p2 : 0 < 10 ^ (6 - s'.toNat) := Nat.pow_pos (by omega)
  have z1 : 0 < n.natAbs → 0 < n.natAbs * 10 ^ (6 - s.toNat) := fun h => Nat.mul_pos h p1
  have z2 : 0 < n'.natAbs → 0 < n'.natAbs * 10 ^ (6 - s'.toNat) := fun h => Nat.mul_pos h p2
  generalize n.natAbs * 10 ^ (6 - s.toNat) = x at *
  generalize n'.natAbs * 10 ^ (6 - s'.toNat) = y at *
  by_cases hn : n < 0 <;> by_cases hn' : n' < 0 <;> simp only [hn, hn', if_true, if_false, decide_eq_true_eq, true_and, false_and, and_true, and_false, show (0 ≤ n') = ¬ (n' < 0) by simp, show (0 ≤ n) = ¬ (n < 0) by simp, not_true, not_false_iff] <;> (repeat' split) <;> omega
end Go.Proofs.YthicilfhnakhmaaGreatDoor

/- The numbers: soffit/deci, walked. -/
set_option linter.unusedSimpArgs false
set_option linter.unusedVariables false
namespace Go.Proofs.YthicilfhnakhmaaGreatDoor
open Go.RowKit

theorem pow_le12 (n : Nat) (h : n ≤ 12) : 10 ^ n ≤ 1000000000000 := Nat.pow_le_pow_right (n := 10) (by omega) h

set_option maxHeartbeats 400000 in
theorem power_any (n : Nat) (h : n ≤ 12) (w : World) :
    Calls Tryz.prog 95 #[.int .i64 n] w fun e w' => e = .returned (.int .u64 ((10 ^ n : Nat) : Int)) ∧ w = w' := by
  go_enter Tryz.func95, Tryz.ntmps95
  go_wp2
  go_loop [3, 5] (fun p i => ∃ k : Nat, k ≤ n ∧ i = .int .i64 k ∧ p = .int .u64 ((10 ^ k : Nat) : Int)) (fun _ i => n - (intOf i).toNat)
  case atStart => exact ⟨0, by omega, rfl, rfl⟩
  case round =>
    obtain ⟨k, hk, rfl, rfl⟩ := hrel
    by_cases hlt : k < n
    · have hp := pow_le12 (k+1) (by omega)
      have hs : 10 ^ (k+1) = 10 ^ k * 10 := by rw [Nat.pow_succ]
      have HS := Lib.hid hs
      clear hs
      generalize ha : (10 ^ k : Nat) = a at *
      generalize hb : (10 ^ (k+1) : Nat) = b at *
      have HA := Lib.hid ha
      have HB := Lib.hid hb
      clear ha hb
      have hab : b ≤ a * 10 := Nat.le_of_eq HS.out
      have hab2 : a * 10 ≤ b := Nat.le_of_eq HS.out.symm
      go_wp2
      go_round
      case rel => exact ⟨k+1, by omega, by go_num, by rw [HB.out, HS.out]; go_num⟩
      case measure => simp [intOf]; omega
    · obtain rfl : k = n := by omega
      go_wp2
      go_ret
      exact ⟨rfl, rfl⟩

set_option maxHeartbeats 400000 in
theorem short_any (n s : Nat) (hn : n ≤ 18446744073709551615) (hs : s ≤ 6) (w : World) :
    Calls Tryz.prog 114 #[.agg #[.int .u64 n, .int .i64 s]] w fun e w' =>
      e = .returned (.agg #[.int .u64 (shU s n).1, .int .i64 (shU s n).2]) ∧ Below w.heap.size w w' := by
  go_enter Tryz.func114, Tryz.ntmps114
  go_wp2
  go_loopg [] s (fun k wr => ∃ m : Nat, m ≤ n ∧ k ≤ s ∧ Hid (shU s n = shU k m) ∧ wr = (w.alloc (.cells #[.int .u64 m, .int .i64 k] 116)).alloc (.cells #[.int .u64 0, .int .i64 0] 116))
  case atStart => exact ⟨n, Nat.le_refl _, Nat.le_refl _, rfl, rfl⟩
  case round =>
    obtain ⟨m, hm, hk, hsh, rfl⟩ := hrel
    rcases gk with _ | k
    · go_wp2
      refine bodyPost_ret (v := .agg #[.int .u64 (shU s n).1, .int .i64 (shU s n).2]) ?_ rfl ⟨rfl, ?_⟩
      · rw [hsh.out]
        simp [results, Tryz.results114, go_sem, shU_zero]
      · exact bel
    · by_cases h10 : m % 10 = 0
      · have HC := Lib.hid (shU_cut k m h10)
        have hb : ((m : Int) % 10 == 0) = true := by simp; omega
        go_wp2
        go_roundg k
        case measure => omega
        case rel =>
          refine ⟨m / 10, by omega, by omega, hsh.out.trans HC.out, ?_⟩
          rfl
      · have HC := Lib.hid (shU_stop k m h10)
        have hb : ((m : Int) % 10 == 0) = false := by simp; omega
        go_wp2
        refine bodyPost_ret (v := .agg #[.int .u64 (shU s n).1, .int .i64 (shU s n).2]) ?_ rfl ⟨rfl, ?_⟩
        · rw [hsh.out, HC.out]
          simp [results, Tryz.results114, go_sem]
        · exact bel


theorem power_p (n p : Nat) (h : n ≤ 12) (hp : 10 ^ n = p) (w : World) :
    Calls Tryz.prog 95 #[.int .i64 n] w fun e w' => e = .returned (.int .u64 p) ∧ w = w' := by
  subst hp
  exact power_any n h w
end Go.Proofs.YthicilfhnakhmaaGreatDoor

/- The numbers: (form).dec and above. -/
set_option linter.unusedSimpArgs false
set_option linter.unusedVariables false
namespace Go.Proofs.YthicilfhnakhmaaGreatDoor
open Go.RowKit

/-- what dec hands back -/
def decRes (b : Bool) (n s : Nat) : Value := if (shU s n).1 ≤ 999999999999 then .tuple #[.agg #[.int .i64 (sgn b (shU s n).1), .int .i64 (shU s n).2], .int .i64 0] else .tuple #[.agg #[.int .i64 0, .int .i64 0], .int .i64 3]
set_option maxHeartbeats 400000 in
theorem dec_any (n s : Nat) (b : Bool) (hn : n ≤ 18446744073709551615) (hs : s ≤ 6) (w : World) :
    Calls Tryz.prog 82 #[.agg #[.int .u64 n, .int .i64 s], .bool b] w fun e w' =>
      e = .returned (decRes b n s) ∧ Below w.heap.size w w' := by
  have hl := shU_le s n
  go_enter Tryz.func82, Tryz.ntmps82
  go_wp2_with fail
  refine (short_any n s hn hs _).mono ?_
  rintro e w1 ⟨rfl, hb1⟩
  have hz1 := hb1.size
  try simp at hz1
  obtain ⟨q1_0, l1_0, r1_0⟩ := aft hb1 (w.heap.size)
  obtain ⟨q1_1, l1_1, r1_1⟩ := aft hb1 (w.heap.size + 1)
  by_cases hle : (shU s n).1 ≤ 999999999999
  · have hd : decide ((999999999999 : Int) < ((shU s n).1 : Int)) = false := by simp; omega
    have hfin : ∀ b, decRes b n s = .tuple #[.agg #[.int .i64 (sgn b (shU s n).1), .int .i64 (shU s n).2], .int .i64 0] := fun b => if_pos hle
    have HF := Lib.hid hfin
    clear hfin
    cases b
    · go_wp2_with fail
      refine bodyPost_ret (v := .tuple #[.agg #[.int .i64 (shU s n).1, .int .i64 (shU s n).2], .int .i64 0]) ?_ rfl ⟨HF.out _ ▸ rfl, ?_⟩
      · simp [results, Tryz.results82, go_sem, *]
      · exact bel
    · go_wp2_with fail
      refine bodyPost_ret (v := .tuple #[.agg #[.int .i64 (-(shU s n).1), .int .i64 (shU s n).2], .int .i64 0]) ?_ rfl ⟨HF.out _ ▸ rfl, ?_⟩
      · simp [results, Tryz.results82, go_sem, *]
      · exact bel
  · have hd : decide ((999999999999 : Int) < ((shU s n).1 : Int)) = true := by simp; omega
    have hfin : decRes b n s = .tuple #[.agg #[.int .i64 0, .int .i64 0], .int .i64 3] := if_neg hle
    have HF := Lib.hid hfin
    clear hfin
    go_wp2_with fail
    refine bodyPost_ret (v := .tuple #[.agg #[.int .i64 0, .int .i64 0], .int .i64 3]) ?_ rfl ⟨HF.out ▸ rfl, ?_⟩
    · simp [results, Tryz.results82, go_sem, *]
    · exact bel

/-- what Make hands back -/
def makeRes (n s : Int) : Value := if decIn n s = true then .tuple #[.agg #[.int .i64 (mkN n s), .int .i64 (mkS n s)], .int .i64 0] else .tuple #[.agg #[.int .i64 0, .int .i64 0], .int .i64 3]
theorem makeRes_no {n s : Int} (h : decIn n s = false) : makeRes n s = .tuple #[.agg #[.int .i64 0, .int .i64 0], .int .i64 3] := by unfold makeRes; rw [h]; rfl
theorem makeRes_yes {n s : Int} (h : decIn n s = true) : makeRes n s = .tuple #[.agg #[.int .i64 (mkN n s), .int .i64 (mkS n s)], .int .i64 0] := if_pos h
theorem decRes_mk {n s : Int} (h : decIn n s = true) : decRes (decide (n < 0)) n.natAbs s.toNat = makeRes n s := by
  rw [makeRes_yes h]
  have := (shU_le s.toNat n.natAbs).1
  have := decIn_of h
  exact if_pos (by omega)

set_option maxHeartbeats 800000 in
theorem make_any (n s : Int) (w : World) (hn1 : -9223372036854775808 ≤ n) (hn2 : n ≤ 9223372036854775807) (hs1 : -9223372036854775808 ≤ s) (hs2 : s ≤ 9223372036854775807) :
    Calls Tryz.prog 56 #[.int .i64 n, .int .i64 s] w fun e w' => e = .returned (makeRes n s) ∧ Below w.heap.size w w' := by
  by_cases h : decIn n s = true
  · obtain ⟨h1, h2, h3, h4⟩ := decIn_of h
    by_cases hneg : n < 0
    · obtain ⟨m, rfl⟩ : ∃ m : Nat, n = -(m : Int) := ⟨n.natAbs, by omega⟩
      obtain ⟨t, rfl⟩ : ∃ t : Nat, s = (t : Int) := ⟨s.toNat, by omega⟩
      have hm : m ≤ 999999999999 := by omega
      have ht : t ≤ 6 := by omega
      have HG : Hid (decRes true m t = .tuple #[.agg #[.int .i64 (sgn true (shU t m).1), .int .i64 (shU t m).2], .int .i64 0]) := by
        have := (shU_le t m).1
        exact if_pos (by omega)
      have HF : Hid (makeRes (-(m : Int)) t = .tuple #[.agg #[.int .i64 (sgn true (shU t m).1), .int .i64 (shU t m).2], .int .i64 0]) := by
        have := decRes_mk h
        rw [Int.natAbs_neg, Int.natAbs_natCast, Int.toNat_natCast, decide_eq_true hneg] at this
        exact this.symm.trans HG.out
      have e1 : decide ((t : Int) < 0) = false := by simp
      have e2 : decide (6 < (t : Int)) = false := by simp; omega
      have e4 : decide (999999999999 < (m : Int)) = false := by simp; omega
      have e5 : decide (0 < m) = true := by simp; omega
      have e6 : (0 : Int) < m := by omega
      clear h hneg h1 h2 h3 h4 hs1 hs2 hn1 hn2
      generalize (shU t m).1 = a at *
      generalize (shU t m).2 = c at *
      go_enter Tryz.func56, Tryz.ntmps56
      go_wp2_with fail
      try rw [show max (-(m : Int)) (m : Int) = (m : Int) by omega]
      refine (dec_any m t true (by omega) ht _).mono ?_
      rintro e w1 ⟨rfl, hb1⟩
      rw [HG.out]
      have hz1 := hb1.size
      try simp at hz1
      obtain ⟨q1_0, l1_0, r1_0⟩ := aft hb1 (w.heap.size)
      go_wp2_with fail
      refine bodyPost_ret (v := .tuple #[.agg #[.int .i64 (sgn true a), .int .i64 c], .int .i64 0]) (by simp [results, Tryz.results56, go_sem, *]) rfl ⟨?_, bel⟩
      rw [HF.out]
    · obtain ⟨m, rfl⟩ : ∃ m : Nat, n = (m : Int) := ⟨n.natAbs, by omega⟩
      obtain ⟨t, rfl⟩ : ∃ t : Nat, s = (t : Int) := ⟨s.toNat, by omega⟩
      have hm : m ≤ 999999999999 := by omega
      have ht : t ≤ 6 := by omega
      have HG : Hid (decRes false m t = .tuple #[.agg #[.int .i64 (sgn false (shU t m).1), .int .i64 (shU t m).2], .int .i64 0]) := by
        have := (shU_le t m).1
        exact if_pos (by omega)
      have HF : Hid (makeRes ((m : Int)) t = .tuple #[.agg #[.int .i64 (sgn false (shU t m).1), .int .i64 (shU t m).2], .int .i64 0]) := by
        have := decRes_mk h
        rw [Int.natAbs_natCast, Int.toNat_natCast, decide_eq_false hneg] at this
        exact this.symm.trans HG.out
      have e1 : decide ((t : Int) < 0) = false := by simp
      have e2 : decide (6 < (t : Int)) = false := by simp; omega
      have e4 : decide (999999999999 < (m : Int)) = false := by simp; omega
      have e5 : -(m : Int) ≤ m := by omega
      clear h hneg h1 h2 h3 h4 hs1 hs2 hn1 hn2
      generalize (shU t m).1 = a at *
      generalize (shU t m).2 = c at *
      go_enter Tryz.func56, Tryz.ntmps56
      go_wp2_with fail
      try rw [show max (m : Int) (-(m : Int)) = (m : Int) by omega]
      refine (dec_any m t false (by omega) ht _).mono ?_
      rintro e w1 ⟨rfl, hb1⟩
      rw [HG.out]
      have hz1 := hb1.size
      try simp at hz1
      obtain ⟨q1_0, l1_0, r1_0⟩ := aft hb1 (w.heap.size)
      go_wp2_with fail
      refine bodyPost_ret (v := .tuple #[.agg #[.int .i64 (sgn false a), .int .i64 c], .int .i64 0]) (by simp [results, Tryz.results56, go_sem, *]) rfl ⟨?_, bel⟩
      rw [HF.out]
  · have h' : decIn n s = false := by simpa using h
    have HF := Lib.hid (makeRes_no h')
    have h0 : s < 0 ∨ (0 ≤ s ∧ 6 < s) ∨ (0 ≤ s ∧ s ≤ 6 ∧ 999999999999 < n) ∨ (0 ≤ s ∧ s ≤ 6 ∧ n ≤ 999999999999 ∧ n < -999999999999) := by
      simp [decIn] at h'; omega
    clear h h'
    rcases h0 with a | ⟨a, b⟩ | ⟨a, b, c⟩ | ⟨a, b, c, d⟩
    · have e1 : decide (s < 0) = true := by simp; omega
      go_enter Tryz.func56, Tryz.ntmps56
      go_wp2_with fail
      refine bodyPost_ret (v := .tuple #[.agg #[.int .i64 0, .int .i64 0], .int .i64 3]) (by simp [results, Tryz.results56, go_sem, *]) rfl ⟨?_, bel⟩
      rw [HF.out]
    · have e1 : decide (s < 0) = false := by simp; omega
      have e2 : decide (6 < s) = true := by simp; omega
      go_enter Tryz.func56, Tryz.ntmps56
      go_wp2_with fail
      refine bodyPost_ret (v := .tuple #[.agg #[.int .i64 0, .int .i64 0], .int .i64 3]) (by simp [results, Tryz.results56, go_sem, *]) rfl ⟨?_, bel⟩
      rw [HF.out]
    · have e1 : decide (s < 0) = false := by simp; omega
      have e2 : decide (6 < s) = false := by simp; omega
      have e3 : decide (999999999999 < n) = true := by simp; omega
      go_enter Tryz.func56, Tryz.ntmps56
      go_wp2_with fail
      refine bodyPost_ret (v := .tuple #[.agg #[.int .i64 0, .int .i64 0], .int .i64 3]) (by simp [results, Tryz.results56, go_sem, *]) rfl ⟨?_, bel⟩
      rw [HF.out]
    · have e1 : decide (s < 0) = false := by simp; omega
      have e2 : decide (6 < s) = false := by simp; omega
      have e3 : decide (999999999999 < n) = false := by simp; omega
      have e4 : decide (n < -999999999999) = true := by simp; omega
      go_enter Tryz.func56, Tryz.ntmps56
      go_wp2_with fail
      refine bodyPost_ret (v := .tuple #[.agg #[.int .i64 0, .int .i64 0], .int .i64 3]) (by simp [results, Tryz.results56, go_sem, *]) rfl ⟨?_, bel⟩
      rw [HF.out]
end Go.Proofs.YthicilfhnakhmaaGreatDoor

/- The numbers: Sound. -/
set_option linter.unusedSimpArgs false
set_option linter.unusedVariables false
namespace Go.Proofs.YthicilfhnakhmaaGreatDoor
open Go.RowKit

set_option maxHeartbeats 400000 in
theorem decSound_any (n s : Int) (w : World) (hn1 : -9223372036854775808 ≤ n) (hn2 : n ≤ 9223372036854775807) (hs1 : -9223372036854775808 ≤ s) (hs2 : s ≤ 9223372036854775807) :
    Calls Tryz.prog 29 #[.agg #[.int .i64 n, .int .i64 s]] w fun e w' => e = .returned (.bool (decSnd n s)) ∧ Below w.heap.size w w' := by
  by_cases h : decIn n s = true
  · have HM := Lib.hid (makeRes_yes h)
    have HF := Lib.hid (decIn_snd h)
    clear h
    generalize mkN n s = N at *
    generalize mkS n s = S at *
    go_enter Tryz.func29, Tryz.ntmps29
    go_wp2_with fail
    refine (make_any n s _ hn1 hn2 hs1 hs2).mono ?_
    rintro e w1 ⟨rfl, hb1⟩
    rw [HM.out]
    have hz1 := hb1.size
    try simp at hz1
    obtain ⟨q1_0, l1_0, r1_0⟩ := aft hb1 (w.heap.size)
    clear hn1 hn2 hs1 hs2
    go_wp2_with fail
    all_goals go_ret
    all_goals exact ⟨ret_bool (by rw [HF.out]; simp [*]), bel⟩
  · have h' : decIn n s = false := by simpa using h
    have HM := Lib.hid (makeRes_no h')
    have HF := Lib.hid (not_decIn_snd h')
    clear h h'
    go_enter Tryz.func29, Tryz.ntmps29
    go_wp2_with fail
    refine (make_any n s _ hn1 hn2 hs1 hs2).mono ?_
    rintro e w1 ⟨rfl, hb1⟩
    rw [HM.out]
    have hz1 := hb1.size
    try simp at hz1
    obtain ⟨q1_0, l1_0, r1_0⟩ := aft hb1 (w.heap.size)
    go_wp2_with fail
    go_ret
    exact ⟨ret_bool (by rw [HF.out]), bel⟩
end Go.Proofs.YthicilfhnakhmaaGreatDoor
