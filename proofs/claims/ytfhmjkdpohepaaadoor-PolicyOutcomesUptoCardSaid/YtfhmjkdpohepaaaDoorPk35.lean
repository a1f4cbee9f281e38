import Derived.Test.YtfhmjkdpohepaaaDoorPk34
import Derived.Test.YtfhmjkdpohepaaaDoorPk02
import Derived.Test.YtfhmjkdpohepaaaDoorPk22
/- soffitref01.plus, minus, walked. -/
set_option linter.unusedSimpArgs false
set_option linter.unusedVariables false
namespace Go.Proofs.YtfhmjkdpohepaaaDoor
open Go.RowKit

/-- a row of numbers within a block, from a place on -/
def RowAt (w : World) (g o : Nat) (f : Nat → Int) (n : Nat) : Prop := ∀ j, j < n → w.cell? ⟨g, o + j, none⟩ = some (.int .i64 (f j))
theorem RowAt.below {w w' : World} {g o n : Nat} {f : Nat → Int} (h : RowAt w g o f n) (hb : Below w.heap.size w w') : RowAt w' g o f n := fun j hj => cell_below hb (h j hj)
theorem RowIs.cut {w : World} {g n m o : Nat} {f f' : Nat → Int} (h : RowIs w g f n) (hn : o + m ≤ n) (hf : ∀ j, j < m → f (o + j) = f' j) : RowAt w g o f' m := fun j hj => by rw [h (o + j) (by omega), hf j hj]
theorem dig_lt (x i : Nat) : dig x i ≤ 9 := by unfold dig; omega
theorem carry_le (x y k : Nat) : carry x y k ≤ 1 := by
  unfold carry
  have hp : 0 < 10 ^ k := Nat.pow_pos (by omega)
  have h1 := Nat.mod_lt x hp
  have h2 := Nat.mod_lt y hp
  have : (x % 10 ^ k + y % 10 ^ k) / 10 ^ k < 2 := by rw [Nat.div_lt_iff_lt_mul hp]; omega
  omega
theorem borrow_le (x y k : Nat) : borrow x y k ≤ 1 := by unfold borrow; split <;> omega

theorem cell_below_at {w w' : World} (hb : Below w.heap.size w w') {g o : Nat} {v : Value} (h : w.cell? ⟨g, o, none⟩ = some v) : w'.cell? ⟨g, o, none⟩ = some v := cell_below hb h
set_option maxRecDepth 100000 in
set_option maxHeartbeats 1600000 in
theorem refPlus60 (g h x y : Nat) (w : World) (ha : RowIs w g (fun j => (dig x j : Int)) 60) (hb : RowIs w h (fun j => (dig y j : Int)) 60) :
    Calls Tryd.prog 59 #[.slice (some ⟨g, 0, none⟩) 60 60, .slice (some ⟨h, 0, none⟩) 60 60] w fun e w' =>
      ∃ q, e = .returned (.slice (some ⟨q, 0, none⟩) 60 60) ∧ RowIs w' q (fun j => (dig (x + y) j : Int)) 60 ∧ Below w.heap.size w w' := by
  have hmk : ∀ W, (Instr.makeSlice 27 (.int .i64 60) (.int .i64 60)).run Tryd.prog W = .ok (.slice (some ⟨W.heap.size, 0, none⟩) 60 60) (W.alloc (.cells (rowA (fun _ => 0) 60) 3)) := fun _ => by kernel_rfl
  have HA := Lib.hid ha
  have HB := Lib.hid hb
  clear ha hb
  go_enter Tryd.func59, Tryd.ntmps59
  go_wp2_with fail
  go_loopg [6, 7] 60 (fun k cv iv wr => ∃ (j c : Nat), j ≤ 60 ∧ 60 - j ≤ k ∧ cv = .int .i64 c ∧ Hid (c = carry x y j) ∧ iv = .int .i64 j ∧ Hid (RowIs wr w.heap.size (fun i => if i < j then (dig (x + y) i : Int) else 0) 60) ∧ (∀ o, wr.frozen? ⟨w.heap.size, o, none⟩ = false) ∧ w.heap.size + 1 ≤ wr.heap.size ∧ Below w.heap.size w wr)
  case atStart =>
    refine ⟨0, 0, by omega, by omega, rfl, Lib.hid (carry_zero x y).symm, rfl, Lib.hid ?_, fun o => by simp [go_sem], by simp, bel⟩
    intro i hi
    show _ = some (Value.int .i64 0)
    simp only [go_sem, sz_alloc, World.cell?_alloc_past, World.cell?_alloc_at, Nat.lt_succ_self, Nat.lt_add_one]
    exact rowA_get _ _ _ hi
  case round =>
    obtain ⟨j, c, hj, hjk, rfl, hc, rfl, hrl, hfr, hsz, hbel⟩ := hrel
    by_cases hlt : j < 60
    · have ca : wr.cell? ⟨g, j, none⟩ = some (.int .i64 (dig x j : Int)) := cell_below_at hbel (HA.out j hlt)
      have cb : wr.cell? ⟨h, j, none⟩ = some (.int .i64 (dig y j : Int)) := cell_below_at hbel (HB.out j hlt)
      have co : wr.cell? ⟨w.heap.size, j, none⟩ = some (.int .i64 0) := by have := hrl.out j hlt; simpa using this
      have cf := hfr j
      have HST := Lib.hid (add_step x y j)
      have hx := dig_lt x j
      have hy := dig_lt y j
      have hcl : c ≤ 1 := by rw [hc.out]; exact carry_le x y j
      have HFR := Lib.hid hfr
      have HC : Hid (dig (x + y) j = (dig x j + dig y j + c) % 10 ∧ carry x y (j + 1) = (dig x j + dig y j + c) / 10) := by rw [hc.out]; exact HST.out
      clear hfr HST hc
      generalize dig x j = a at *
      generalize dig y j = b at *
      have hw1 : IntKind.i64.wrap ((a : Int) + (b : Int)) = (a : Int) + (b : Int) := IntWalk.i64_in _ (by omega)
      have hw2 : IntKind.i64.wrap ((a : Int) + (b : Int) + (c : Int)) = (a : Int) + (b : Int) + (c : Int) := IntWalk.i64_in _ (by omega)
      have hi1 : (j : Int) < 60 := by omega
      have hi2 : (0 : Int) ≤ (j : Int) := by omega
      go_wp2_with fail
      go_region
      go_wp2_with fail
      go_roundg (gk - 1)
      case measure => omega
      case rel =>
        refine ⟨j + 1, (a + b + c) / 10, by omega, by omega, by go_num, Lib.hid HC.out.2.symm, by go_num, Lib.hid ?_, fun o => (frozen_setCell _ _ _ _).trans (HFR.out o), (by first | omega | (simp only [sz_alloc, sz_set, sz_drew, sz_drewN, sz_iterAt, sz_iter] at *; omega) | (simp; done) | (simp; omega) | (simp at *; omega)), bel⟩
        have hrow : RowIs wr.drew w.heap.size (fun i => if i < j then (dig (x + y) i : Int) else 0) 60 := hrl.out
        refine (hrow.set_ j hlt _).congr fun i hi => ?_
        by_cases e : i = j
        · subst e
          rw [if_pos rfl, if_pos (by omega), HC.out.1]
          omega
        · rw [if_neg e]
          by_cases e2 : i < j
          · rw [if_pos e2, if_pos (by omega)]
          · rw [if_neg e2, if_neg (by omega)]
    · obtain rfl : j = 60 := by omega
      go_wp2_with fail
      go_ret
      refine ⟨w.heap.size, rfl, hrl.out.congr fun i hi => ?_, hbel⟩
      rw [if_pos hi]

set_option maxRecDepth 100000 in
set_option maxHeartbeats 1600000 in
theorem refPlus54 (g h x y : Nat) (w : World) (ha : RowAt w g 6 (fun j => (dig x j : Int)) 54) (hb : RowIs w h (fun j => (dig y j : Int)) 54) :
    Calls Tryd.prog 59 #[.slice (some ⟨g, 6, none⟩) 54 54, .slice (some ⟨h, 0, none⟩) 54 54] w fun e w' =>
      ∃ q, e = .returned (.slice (some ⟨q, 0, none⟩) 54 54) ∧ RowIs w' q (fun j => (dig (x + y) j : Int)) 54 ∧ Below w.heap.size w w' := by
  have hmk : ∀ W, (Instr.makeSlice 27 (.int .i64 54) (.int .i64 54)).run Tryd.prog W = .ok (.slice (some ⟨W.heap.size, 0, none⟩) 54 54) (W.alloc (.cells (rowA (fun _ => 0) 54) 3)) := fun _ => by kernel_rfl
  have HA := Lib.hid ha
  have HB := Lib.hid hb
  clear ha hb
  go_enter Tryd.func59, Tryd.ntmps59
  go_wp2_with fail
  go_loopg [6, 7] 54 (fun k cv iv wr => ∃ (j c : Nat), j ≤ 54 ∧ 54 - j ≤ k ∧ cv = .int .i64 c ∧ Hid (c = carry x y j) ∧ iv = .int .i64 j ∧ Hid (RowIs wr w.heap.size (fun i => if i < j then (dig (x + y) i : Int) else 0) 54) ∧ (∀ o, wr.frozen? ⟨w.heap.size, o, none⟩ = false) ∧ w.heap.size + 1 ≤ wr.heap.size ∧ Below w.heap.size w wr)
  case atStart =>
    refine ⟨0, 0, by omega, by omega, rfl, Lib.hid (carry_zero x y).symm, rfl, Lib.hid ?_, fun o => by simp [go_sem], by simp, bel⟩
    intro i hi
    show _ = some (Value.int .i64 0)
    simp only [go_sem, sz_alloc, World.cell?_alloc_past, World.cell?_alloc_at, Nat.lt_succ_self, Nat.lt_add_one]
    exact rowA_get _ _ _ hi
  case round =>
    obtain ⟨j, c, hj, hjk, rfl, hc, rfl, hrl, hfr, hsz, hbel⟩ := hrel
    by_cases hlt : j < 54
    · have ca : wr.cell? ⟨g, 6 + j, none⟩ = some (.int .i64 (dig x j : Int)) := cell_below_at hbel (HA.out j hlt)
      have cb : wr.cell? ⟨h, j, none⟩ = some (.int .i64 (dig y j : Int)) := cell_below_at hbel (HB.out j hlt)
      have co : wr.cell? ⟨w.heap.size, j, none⟩ = some (.int .i64 0) := by have := hrl.out j hlt; simpa using this
      have cf := hfr j
      have HST := Lib.hid (add_step x y j)
      have hx := dig_lt x j
      have hy := dig_lt y j
      have hcl : c ≤ 1 := by rw [hc.out]; exact carry_le x y j
      have HFR := Lib.hid hfr
      have HC : Hid (dig (x + y) j = (dig x j + dig y j + c) % 10 ∧ carry x y (j + 1) = (dig x j + dig y j + c) / 10) := by rw [hc.out]; exact HST.out
      clear hfr HST hc
      generalize dig x j = a at *
      generalize dig y j = b at *
      have hw1 : IntKind.i64.wrap ((a : Int) + (b : Int)) = (a : Int) + (b : Int) := IntWalk.i64_in _ (by omega)
      have hw2 : IntKind.i64.wrap ((a : Int) + (b : Int) + (c : Int)) = (a : Int) + (b : Int) + (c : Int) := IntWalk.i64_in _ (by omega)
      have hi1 : (j : Int) < 54 := by omega
      have hi2 : (0 : Int) ≤ (j : Int) := by omega
      go_wp2_with fail
      go_region
      go_wp2_with fail
      go_roundg (gk - 1)
      case measure => omega
      case rel =>
        refine ⟨j + 1, (a + b + c) / 10, by omega, by omega, by go_num, Lib.hid HC.out.2.symm, by go_num, Lib.hid ?_, fun o => (frozen_setCell _ _ _ _).trans (HFR.out o), (by first | omega | (simp only [sz_alloc, sz_set, sz_drew, sz_drewN, sz_iterAt, sz_iter] at *; omega) | (simp; done) | (simp; omega) | (simp at *; omega)), bel⟩
        have hrow : RowIs wr.drew w.heap.size (fun i => if i < j then (dig (x + y) i : Int) else 0) 54 := hrl.out
        refine (hrow.set_ j hlt _).congr fun i hi => ?_
        by_cases e : i = j
        · subst e
          rw [if_pos rfl, if_pos (by omega), HC.out.1]
          omega
        · rw [if_neg e]
          by_cases e2 : i < j
          · rw [if_pos e2, if_pos (by omega)]
          · rw [if_neg e2, if_neg (by omega)]
    · obtain rfl : j = 54 := by omega
      go_wp2_with fail
      go_ret
      refine ⟨w.heap.size, rfl, hrl.out.congr fun i hi => ?_, hbel⟩
      rw [if_pos hi]

set_option maxRecDepth 100000 in
set_option maxHeartbeats 1600000 in
theorem refMinus60 (g h x y : Nat) (w : World) (hxy : y ≤ x) (ha : RowIs w g (fun j => (dig x j : Int)) 60) (hb : RowIs w h (fun j => (dig y j : Int)) 60) :
    Calls Tryd.prog 60 #[.slice (some ⟨g, 0, none⟩) 60 60, .slice (some ⟨h, 0, none⟩) 60 60] w fun e w' =>
      ∃ q, e = .returned (.slice (some ⟨q, 0, none⟩) 60 60) ∧ RowIs w' q (fun j => (dig (x - y) j : Int)) 60 ∧ Below w.heap.size w w' := by
  have hmk : ∀ W, (Instr.makeSlice 27 (.int .i64 60) (.int .i64 60)).run Tryd.prog W = .ok (.slice (some ⟨W.heap.size, 0, none⟩) 60 60) (W.alloc (.cells (rowA (fun _ => 0) 60) 3)) := fun _ => by kernel_rfl
  have HA := Lib.hid ha
  have HB := Lib.hid hb
  have HXY := Lib.hid hxy
  clear ha hb hxy
  go_enter Tryd.func60, Tryd.ntmps60
  go_wp2_with fail
  go_loopg [6, 7] 60 (fun k cv iv wr => ∃ (j c : Nat), j ≤ 60 ∧ 60 - j ≤ k ∧ cv = .int .i64 c ∧ Hid (c = borrow x y j) ∧ iv = .int .i64 j ∧ Hid (RowIs wr w.heap.size (fun i => if i < j then (dig (x - y) i : Int) else 0) 60) ∧ (∀ o, wr.frozen? ⟨w.heap.size, o, none⟩ = false) ∧ w.heap.size + 1 ≤ wr.heap.size ∧ Below w.heap.size w wr)
  case atStart =>
    refine ⟨0, 0, by omega, by omega, rfl, Lib.hid (borrow_zero x y).symm, rfl, Lib.hid ?_, fun o => by simp [go_sem], by simp, bel⟩
    intro i hi
    show _ = some (Value.int .i64 0)
    simp only [go_sem, sz_alloc, World.cell?_alloc_past, World.cell?_alloc_at, Nat.lt_succ_self, Nat.lt_add_one]
    exact rowA_get _ _ _ hi
  case round =>
    obtain ⟨j, c, hj, hjk, rfl, hc, rfl, hrl, hfr, hsz, hbel⟩ := hrel
    by_cases hlt : j < 60
    · have ca : wr.cell? ⟨g, j, none⟩ = some (.int .i64 (dig x j : Int)) := cell_below_at hbel (HA.out j hlt)
      have cb : wr.cell? ⟨h, j, none⟩ = some (.int .i64 (dig y j : Int)) := cell_below_at hbel (HB.out j hlt)
      have co : wr.cell? ⟨w.heap.size, j, none⟩ = some (.int .i64 0) := by have := hrl.out j hlt; simpa using this
      have cf := hfr j
      have HST := Lib.hid (sub_step x y j HXY.out)
      have hx := dig_lt x j
      have hy := dig_lt y j
      have hcl : c ≤ 1 := by rw [hc.out]; exact borrow_le x y j
      have HFR := Lib.hid hfr
      have HC : Hid ((dig (x - y) j : Int) = (if (dig x j : Int) - dig y j - c < 0 then (dig x j : Int) - dig y j - c + 10 else (dig x j : Int) - dig y j - c) ∧ borrow x y (j + 1) = (if (dig x j : Int) - dig y j - c < 0 then 1 else 0)) := by rw [hc.out]; exact HST.out
      clear hfr HST hc
      generalize dig x j = a at *
      generalize dig y j = b at *
      have hw1 : IntKind.i64.wrap ((a : Int) - (b : Int)) = (a : Int) - (b : Int) := IntWalk.i64_in _ (by omega)
      have hw2 : IntKind.i64.wrap ((a : Int) - (b : Int) - (c : Int)) = (a : Int) - (b : Int) - (c : Int) := IntWalk.i64_in _ (by omega)
      have hw3 : IntKind.i64.wrap ((a : Int) - (b : Int) - (c : Int) + 10) = (a : Int) - (b : Int) - (c : Int) + 10 := IntWalk.i64_in _ (by omega)
      have hi1 : (j : Int) < 60 := by omega
      have hi2 : (0 : Int) ≤ (j : Int) := by omega
      have fin : ∀ (v : Int), Hid ((dig (x - y) j : Int) = v) → RowIs (wr.drew.setCell ⟨w.heap.size, j, none⟩ (.int .i64 v)) w.heap.size (fun i => if i < j + 1 then (dig (x - y) i : Int) else 0) 60 := by
        intro v hv
        have hrow : RowIs wr.drew w.heap.size (fun i => if i < j then (dig (x - y) i : Int) else 0) 60 := hrl.out
        refine (hrow.set_ j hlt v).congr fun i hi => ?_
        by_cases e : i = j
        · subst e
          rw [if_pos rfl, if_pos (by omega), hv.out]
        · rw [if_neg e]
          by_cases e2 : i < j
          · rw [if_pos e2, if_pos (by omega)]
          · rw [if_neg e2, if_neg (by omega)]
      have HF := Lib.hid fin
      clear fin
      by_cases hneg : (a : Int) - (b : Int) - (c : Int) < 0
      · have hd := HC.out
        rw [if_pos hneg, if_pos hneg] at hd
        have HD := Lib.hid hd
        clear hd HC
        go_wp2_with fail
        go_region
        go_wp2_with fail
        go_roundg (gk - 1)
        case measure => omega
        case rel => exact ⟨j + 1, 1, by omega, by omega, rfl, Lib.hid HD.out.2.symm, by go_num, Lib.hid (HF.out _ (Lib.hid HD.out.1)), fun o => (frozen_setCell _ _ _ _).trans (HFR.out o), (by first | omega | (simp only [sz_alloc, sz_set, sz_drew, sz_drewN, sz_iterAt, sz_iter] at *; omega) | (simp; done) | (simp; omega) | (simp at *; omega)), bel⟩
      · have hd := HC.out
        rw [if_neg hneg, if_neg hneg] at hd
        have HD := Lib.hid hd
        clear hd HC
        go_wp2_with fail
        go_region
        go_wp2_with fail
        go_roundg (gk - 1)
        case measure => omega
        case rel => exact ⟨j + 1, 0, by omega, by omega, rfl, Lib.hid HD.out.2.symm, by go_num, Lib.hid (HF.out _ (Lib.hid HD.out.1)), fun o => (frozen_setCell _ _ _ _).trans (HFR.out o), (by first | omega | (simp only [sz_alloc, sz_set, sz_drew, sz_drewN, sz_iterAt, sz_iter] at *; omega) | (simp; done) | (simp; omega) | (simp at *; omega)), bel⟩
    · obtain rfl : j = 60 := by omega
      go_wp2_with fail
      go_ret
      refine ⟨w.heap.size, rfl, hrl.out.congr fun i hi => ?_, hbel⟩
      rw [if_pos hi]

end Go.Proofs.YtfhmjkdpohepaaaDoor

/- The reference's sum of two numbers: signs: plain. -/
set_option linter.unusedSimpArgs false
set_option linter.unusedVariables false
namespace Go.Proofs.YtfhmjkdpohepaaaDoor

theorem decRes_sgn (b b' : Bool) (m : Nat) (h : m = 0 ∨ b = b') : decRes b m 6 = decRes b' m 6 := by
  rcases h with h | h
  · subst h
    have h0 : shU 6 0 = (0, 0) := by decide
    unfold decRes
    rw [h0]
    cases b <;> cases b' <;> rfl
  · rw [h]
theorem units_abs (n : Int) (s : Nat) (hs : s ≤ 6) : n.natAbs * 10 ^ (12 - s) = (unitsI n s).natAbs * 10 ^ 6 := by
  unfold unitsI
  rw [Int.toNat_natCast, Int.natAbs_mul, Int.natAbs_pow, show (10 : Int).natAbs = 10 from rfl, Nat.mul_assoc, ← Nat.pow_add, show 6 - s + 6 = 12 - s by omega]
theorem units_neg (n : Int) (s : Nat) : (unitsI n s < 0 ↔ n < 0) := by
  unfold unitsI
  rw [Int.toNat_natCast]
  have hp : (0 : Int) < 10 ^ (6 - s) := Int.pow_pos (by decide)
  constructor
  · intro h
    rcases Int.lt_or_le n 0 with h1 | h1
    · exact h1
    · have := Int.mul_nonneg h1 (Int.le_of_lt hp)
      omega
  · exact fun h => Int.mul_neg_of_neg_of_pos h hp
theorem mul6_lt {a b : Nat} : a * 10 ^ 6 < b * 10 ^ 6 ↔ a < b := by omega
/-- both of one sign: the rows are added -/
theorem sum_same {a b : Int} (h : (a < 0 ↔ b < 0)) : a.natAbs * 10 ^ 6 + b.natAbs * 10 ^ 6 = (a + b).natAbs * 10 ^ 6 ∧ decRes (decide (a < 0)) (a + b).natAbs 6 = decRes (decide (a + b < 0)) (a + b).natAbs 6 := by
  constructor
  · omega
  · refine decRes_sgn _ _ _ (.inr ?_)
    rw [decide_eq_decide]; omega
/-- of two signs, the first one smaller: it is taken away -/
theorem sum_less {a b : Int} (h : ¬ (a < 0 ↔ b < 0)) (hl : a.natAbs < b.natAbs) : b.natAbs * 10 ^ 6 - a.natAbs * 10 ^ 6 = (a + b).natAbs * 10 ^ 6 ∧ decRes (decide (b < 0)) (a + b).natAbs 6 = decRes (decide (a + b < 0)) (a + b).natAbs 6 := by
  constructor
  · omega
  · refine decRes_sgn _ _ _ (.inr ?_)
    rw [decide_eq_decide]; omega
theorem sum_more {a b : Int} (h : ¬ (a < 0 ↔ b < 0)) (hl : ¬ a.natAbs < b.natAbs) : a.natAbs * 10 ^ 6 - b.natAbs * 10 ^ 6 = (a + b).natAbs * 10 ^ 6 ∧ decRes (decide (a < 0)) (a + b).natAbs 6 = decRes (decide (a + b < 0)) (a + b).natAbs 6 := by
  constructor
  · omega
  · by_cases h0 : a + b = 0
    · exact decRes_sgn _ _ _ (.inl (by rw [h0]; rfl))
    · refine decRes_sgn _ _ _ (.inr ?_)
      rw [decide_eq_decide]; omega
end Go.Proofs.YtfhmjkdpohepaaaDoor

/- soffitref01.dec at a sum's row of digits, walked. -/
set_option linter.unusedSimpArgs false
set_option linter.unusedVariables false
namespace Go.Proofs.YtfhmjkdpohepaaaDoor
open Go.RowKit

set_option maxRecDepth 100000 in
set_option maxHeartbeats 6400000 in
theorem refDec_any (g M : Nat) (bl : Bool) (w : World) (hr : RowIs w g (fun j => (dig (M * 10 ^ 6) j : Int)) 60) (hM : M ≤ 2000000000000000000) :
    Calls Tryd.prog 58 #[.slice (some ⟨g, 0, none⟩) 60 60, .int .i64 12, .bool bl] w fun e w' => e = .returned (decRes bl M 6) ∧ Below w.heap.size w w' := by
  have hmk : ∀ W, (Instr.makeSlice 27 (.int .i64 54) (.int .i64 54)).run Tryd.prog W = .ok (.slice (some ⟨W.heap.size, 0, none⟩) 54 54) (W.alloc (.cells (rowA (fun _ => 0) 54) 3)) := fun _ => by kernel_rfl
  have h0 : ∀ j, j < 6 → w.cell? ⟨g, j, none⟩ = some (.int .i64 0) := fun j hj => by
    rw [hr j (by omega)]
    show some (Value.int .i64 ((dig (M * 10 ^ 6) j : Nat) : Int)) = _
    rw [dig_shift, if_pos hj]; rfl
  have hat : RowAt w g 6 (fun j => (dig M j : Int)) 54 := RowIs.cut hr (by omega) (fun j hj => by
    show ((dig (M * 10 ^ 6) (6 + j) : Nat) : Int) = _
    rw [dig_shift, if_neg (by omega), Nat.add_sub_cancel_left])
  have h5 := h0 5 (by omega)
  have h6 : w.cell? ⟨g, 6, none⟩ = some (.int .i64 (dig M 0 : Int)) := hat 0 (by omega)
  have H0 := Lib.hid h0
  have HAT := Lib.hid hat
  have HM := Lib.hid hM
  clear h0 hat hr hM
  generalize dig M 0 = d6 at h6
  go_enter Tryd.func58, Tryd.ntmps58
  go_wp2_with fail
  generalize hEW0 : w.alloc _ = W0
  have hbW0 : Below w.heap.size w W0 := (by rw [← hEW0]; exact bel)
  have lW0_0 : w.heap.size < W0.heap.size := lsz hEW0
  have qW0_0 : ∀ o, W0.cell? ⟨w.heap.size, o, none⟩ = _ := fun o => congrArg (fun W : World => W.cell? ⟨w.heap.size, o, none⟩) hEW0.symm
  have rW0_0 : ∀ o, W0.frozen? ⟨w.heap.size, o, none⟩ = _ := fun o => congrArg (fun W : World => W.frozen? ⟨w.heap.size, o, none⟩) hEW0.symm
  clear hEW0
  have h5' := cell_below hbW0 h5
  have h6' := cell_below hbW0 h6
  clear h5 h6
  go_loopg [10, 11] 5 (fun k rv iv wr => ∃ j : Nat, j ≤ 5 ∧ 5 - j ≤ k ∧ rv = .int .i64 0 ∧ iv = .int .i64 j ∧ wr = W0)
  case atStart => exact ⟨0, by omega, by omega, rfl, rfl, rfl⟩
  case round =>
    obtain ⟨j, hj, hjk, rfl, rfl, hwr⟩ := hrel
    subst wr
    by_cases hlt : j < 5
    · have hc := cell_below hbW0 (H0.out j (by omega))
      have e1 : (0 : Int) ≤ (j : Int) := by omega
      have e2 : (j : Int) < 60 := by omega
      have e3 : (j : Int) < 5 := by omega
      go_wp2_with fail
      go_roundg (gk - 1)
      case measure => omega
      case rel => exact ⟨j + 1, by omega, by omega, by go_num, by go_num, rfl⟩
    · obtain rfl : j = 5 := by omega
      go_wp2_with fail
      refine (refPlus54 g _ M 0 _ (HAT.out.below bel) ?row).mono ?_
      case row =>
        intro j hj
        have e : ((dig 0 j : Nat) : Int) = 0 := by simp [dig]
        show _ = some (Value.int .i64 ((dig 0 j : Nat) : Int))
        rw [e, rowA_set]
        simp only [go_sem, sz_alloc, World.cell?_alloc_past, World.cell?_alloc_at, Nat.lt_succ_self, Nat.lt_add_one]
        rw [rowA_get _ _ _ hj]
        split <;> rfl
      rintro e w1 ⟨q, rfl, hq, hb1⟩
      rw [Nat.add_zero] at hq
      have hz1 := hb1.size
      try simp at hz1
      obtain ⟨q1_0, l1_0, r1_0⟩ := aft hb1 (w.heap.size)
      have HQ := Lib.hid hq
      have hbw1 : Below w.heap.size w w1 := bel
      clear hq hb1 HAT H0 h5' h6' hbW0
      go_wp2_with fail
      go_loopg [0, 1] 6 (fun k rv bv wr => ∃ o b m : Nat, o + b = 6 ∧ o + m = 54 ∧ b ≤ k ∧ rv = .slice (some ⟨q, o, none⟩) m m ∧ bv = .int .i64 b ∧ Hid (M % 10 ^ o = 0) ∧ wr = w1)
      case atStart => exact ⟨0, 6, 54, by omega, by omega, by omega, rfl, rfl, Lib.hid (Nat.mod_one _), rfl⟩
      case round =>
        obtain ⟨o, b, m, hob, hom, hbk, rfl, rfl, HM0, hwr⟩ := hrel
        subst wr
        have hc : w1.cell? ⟨q, o, none⟩ = some (.int .i64 (dig M o : Int)) := HQ.out o (by omega)
        by_cases hb0 : b = 0
        · have e1 : ¬ (0 : Int) < (b : Int) := by omega
          have e1' : ¬ 0 < b := by omega
          have HSTOP : Hid (o = 6 ∨ dig M o ≠ 0) := Lib.hid (.inl (by omega))
          clear hc hb0
          obtain ⟨V, hV⟩ : ∃ V, M / 10 ^ o = V := ⟨_, rfl⟩
          have hse := strip_end (m := M) (o := o) (by omega) HM0.out HSTOP.out
          rw [hV] at hse
          have hV0 : V / 10 ^ m = 0 := by
            rw [← hV, Nat.div_div_eq_div_mul, ← Nat.pow_add, hom]
            exact Nat.div_eq_of_lt (Nat.lt_of_le_of_lt HM.out (by decide))
          have hcel : ∀ i, i < m → w1.cell? ⟨q, o + i, none⟩ = some (.int .i64 (dig V i : Int)) := fun i hi => by
            rw [HQ.out (o + i) (by omega)]
            show some (Value.int .i64 ((dig M (o + i) : Nat) : Int)) = _
            rw [dig_part, hV]
          have hyes : V ≤ 999999999999 → decRes bl M 6 = .tuple #[.agg #[.int .i64 (sgn bl V), .int .i64 b], .int .i64 0] := fun h => by
            rw [decRes_yes (by rw [hse]; exact h), hse]
            show Value.tuple #[.agg #[_, .int .i64 ((6 - o : Nat) : Int)], _] = _
            rw [show 6 - o = b by omega]
          have hno : ¬ V ≤ 999999999999 → decRes bl M 6 = .tuple #[.agg #[.int .i64 0, .int .i64 0], .int .i64 3] := fun h => decRes_no (by rw [hse]; exact h)
          have HY := Lib.hid hyes
          have HN := Lib.hid hno
          have HC := Lib.hid hcel
          have HV0 := Lib.hid hV0
          have HOM := Lib.hid hom
          clear hyes hno hcel hV0 hse hV HM0 HSTOP
          go_wp2_with fail
          go_loopg [15, 16] m (fun k nv iv wr => ∃ n : Nat, k ≤ m ∧ nv = .int .i64 n ∧ Hid (n = V / 10 ^ k) ∧ n ≤ 9999999999999 ∧ iv = .int .i64 ((k : Int) - 1) ∧ wr = w1)
          case atStart => exact ⟨0, Nat.le_refl _, rfl, Lib.hid HV0.out.symm, by omega, by go_num, rfl⟩
          case round =>
            obtain ⟨n, hk, rfl, hn, hnb, rfl, hwr⟩ := hrel
            subst wr
            rcases gk with _ | k
            · have hnV : n = V := by rw [hn.out]; simp
              subst hnV
              by_cases hle : n ≤ 999999999999
              · have hle' : ¬ (999999999999 : Int) < (n : Int) := by omega
                have HF := Lib.hid (HY.out hle)
                clear hle hn
                cases bl
                · go_wp2_with fail
                  refine bodyPost_ret (v := .tuple #[.agg #[.int .i64 (n : Int), .int .i64 b], .int .i64 0]) (by simp [results, Tryd.results58, go_sem, *]) rfl ⟨?_, bel⟩
                  rw [HF.out]; rfl
                · have hw : IntKind.i64.wrap (-(n : Int)) = -(n : Int) := IntWalk.i64_in _ (by omega)
                  go_wp2_with fail
                  refine bodyPost_ret (v := .tuple #[.agg #[.int .i64 (-(n : Int)), .int .i64 b], .int .i64 0]) (by simp [results, Tryd.results58, go_sem, *]) rfl ⟨?_, bel⟩
                  rw [HF.out]; rfl
              · have hle' : (999999999999 : Int) < (n : Int) := by omega
                have HF := Lib.hid (HN.out hle)
                clear hle hn
                go_wp2_with fail
                refine bodyPost_ret (v := .tuple #[.agg #[.int .i64 0, .int .i64 0], .int .i64 3]) (by simp [results, Tryd.results58, go_sem, *]) rfl ⟨?_, bel⟩
                rw [HF.out]
            · have e0 : ((k + 1 : Nat) : Int) - 1 = (k : Int) := by omega
              rw [e0]
              have hc := HC.out k (by omega)
              have hfs := fold_step V k
              rw [← hn.out] at hfs
              have hd := dig_lt V k
              by_cases hle : n ≤ 999999999999
              · have hle' : ¬ (999999999999 : Int) < (n : Int) := by omega
                have HFS := Lib.hid hfs
                clear hfs hn hle
                generalize dig V k = d at *
                have hw1 : IntKind.i64.wrap ((n : Int) * 10) = (n : Int) * 10 := IntWalk.i64_in _ (by omega)
                have hw2 : IntKind.i64.wrap ((n : Int) * 10 + (d : Int)) = (n : Int) * 10 + (d : Int) := IntWalk.i64_in _ (by omega)
                have e1 : (0 : Int) ≤ (k : Int) := by omega
                have e2 : (k : Int) < (m : Int) := by omega
                go_wp2_with fail
                go_roundg k
                case measure => omega
                case rel => exact ⟨n * 10 + d, by omega, by go_num, Lib.hid HFS.out, by omega, by go_num, rfl⟩
              · have hle' : (999999999999 : Int) < (n : Int) := by omega
                have e1 : (0 : Int) ≤ (k : Int) := by omega
                have hbig : ¬ V ≤ 999999999999 := by
                  intro h
                  have h1 : V / 10 ^ (k + 1) ≤ V := Nat.div_le_self _ _
                  rw [← hn.out] at h1
                  omega
                have HF := Lib.hid (HN.out hbig)
                clear hle hn hbig hfs
                go_wp2_with fail
                refine bodyPost_ret (v := .tuple #[.agg #[.int .i64 0, .int .i64 0], .int .i64 3]) (by simp [results, Tryd.results58, go_sem, *]) rfl ⟨?_, bel⟩
                rw [HF.out]
        · have e1 : (0 : Int) < (b : Int) := by omega
          have e1' : 0 < b := by omega
          have e3 : (0 : Int) < (m : Int) := by omega
          by_cases hd : dig M o = 0
          · have HD := Lib.hid hd
            rw [hd] at hc
            clear hd
            obtain ⟨b', rfl⟩ : ∃ b', b = b' + 1 := ⟨b - 1, by omega⟩
            obtain ⟨m', rfl⟩ : ∃ m', m = m' + 1 := ⟨m - 1, by omega⟩
            go_wp2_with fail
            go_roundg (gk - 1)
            case measure => omega
            case rel => exact ⟨o + 1, b', m', by omega, by omega, by omega, by go_num, by go_num, Lib.hid (mod_step HM0.out HD.out), rfl⟩
          · have HSTOP : Hid (o = 6 ∨ dig M o ≠ 0) := Lib.hid (.inr hd)
            have e4 : ((dig M o : Int) == 0) = false := by rw [beq_eq_false_iff_ne]; omega
            have e5 : ¬ dig M o = 0 := hd
            have e6 : (dig M o == 0) = false := by rw [beq_eq_false_iff_ne]; exact hd
            have HSE := Lib.hid (strip_end (m := M) (o := o) (by omega) HM0.out HSTOP.out)
            clear HSTOP hd
            generalize dig M o = d at hc e4 e5 e6
            obtain ⟨V, hV⟩ : ∃ V, M / 10 ^ o = V := ⟨_, rfl⟩
            have hse := HSE.out
            rw [hV] at hse
            have hV0 : V / 10 ^ m = 0 := by
              rw [← hV, Nat.div_div_eq_div_mul, ← Nat.pow_add, hom]
              exact Nat.div_eq_of_lt (Nat.lt_of_le_of_lt HM.out (by decide))
            have hcel : ∀ i, i < m → w1.cell? ⟨q, o + i, none⟩ = some (.int .i64 (dig V i : Int)) := fun i hi => by
              rw [HQ.out (o + i) (by omega)]
              show some (Value.int .i64 ((dig M (o + i) : Nat) : Int)) = _
              rw [dig_part, hV]
            have hyes : V ≤ 999999999999 → decRes bl M 6 = .tuple #[.agg #[.int .i64 (sgn bl V), .int .i64 b], .int .i64 0] := fun h => by
              rw [decRes_yes (by rw [hse]; exact h), hse]
              show Value.tuple #[.agg #[_, .int .i64 ((6 - o : Nat) : Int)], _] = _
              rw [show 6 - o = b by omega]
            have hno : ¬ V ≤ 999999999999 → decRes bl M 6 = .tuple #[.agg #[.int .i64 0, .int .i64 0], .int .i64 3] := fun h => decRes_no (by rw [hse]; exact h)
            have HY := Lib.hid hyes
            have HN := Lib.hid hno
            have HC := Lib.hid hcel
            have HV0 := Lib.hid hV0
            have HOM := Lib.hid hom
            clear hyes hno hcel hV0 hse hV HM0 HSE
            go_wp2_with fail
            go_loopg [15, 16] m (fun k nv iv wr => ∃ n : Nat, k ≤ m ∧ nv = .int .i64 n ∧ Hid (n = V / 10 ^ k) ∧ n ≤ 9999999999999 ∧ iv = .int .i64 ((k : Int) - 1) ∧ wr = w1)
            case atStart => exact ⟨0, Nat.le_refl _, rfl, Lib.hid HV0.out.symm, by omega, by go_num, rfl⟩
            case round =>
              obtain ⟨n, hk, rfl, hn, hnb, rfl, hwr⟩ := hrel
              subst wr
              rcases gk with _ | k
              · have hnV : n = V := by rw [hn.out]; simp
                subst hnV
                by_cases hle : n ≤ 999999999999
                · have hle' : ¬ (999999999999 : Int) < (n : Int) := by omega
                  have HF := Lib.hid (HY.out hle)
                  clear hle hn
                  cases bl
                  · go_wp2_with fail
                    refine bodyPost_ret (v := .tuple #[.agg #[.int .i64 (n : Int), .int .i64 b], .int .i64 0]) (by simp [results, Tryd.results58, go_sem, *]) rfl ⟨?_, bel⟩
                    rw [HF.out]; rfl
                  · have hw : IntKind.i64.wrap (-(n : Int)) = -(n : Int) := IntWalk.i64_in _ (by omega)
                    go_wp2_with fail
                    refine bodyPost_ret (v := .tuple #[.agg #[.int .i64 (-(n : Int)), .int .i64 b], .int .i64 0]) (by simp [results, Tryd.results58, go_sem, *]) rfl ⟨?_, bel⟩
                    rw [HF.out]; rfl
                · have hle' : (999999999999 : Int) < (n : Int) := by omega
                  have HF := Lib.hid (HN.out hle)
                  clear hle hn
                  go_wp2_with fail
                  refine bodyPost_ret (v := .tuple #[.agg #[.int .i64 0, .int .i64 0], .int .i64 3]) (by simp [results, Tryd.results58, go_sem, *]) rfl ⟨?_, bel⟩
                  rw [HF.out]
              · have e0 : ((k + 1 : Nat) : Int) - 1 = (k : Int) := by omega
                rw [e0]
                have hc := HC.out k (by omega)
                have hfs := fold_step V k
                rw [← hn.out] at hfs
                have hd := dig_lt V k
                by_cases hle : n ≤ 999999999999
                · have hle' : ¬ (999999999999 : Int) < (n : Int) := by omega
                  have HFS := Lib.hid hfs
                  clear hfs hn hle
                  generalize dig V k = d at *
                  have hw1 : IntKind.i64.wrap ((n : Int) * 10) = (n : Int) * 10 := IntWalk.i64_in _ (by omega)
                  have hw2 : IntKind.i64.wrap ((n : Int) * 10 + (d : Int)) = (n : Int) * 10 + (d : Int) := IntWalk.i64_in _ (by omega)
                  have e1 : (0 : Int) ≤ (k : Int) := by omega
                  have e2 : (k : Int) < (m : Int) := by omega
                  go_wp2_with fail
                  go_roundg k
                  case measure => omega
                  case rel => exact ⟨n * 10 + d, by omega, by go_num, Lib.hid HFS.out, by omega, by go_num, rfl⟩
                · have hle' : (999999999999 : Int) < (n : Int) := by omega
                  have e1 : (0 : Int) ≤ (k : Int) := by omega
                  have hbig : ¬ V ≤ 999999999999 := by
                    intro h
                    have h1 : V / 10 ^ (k + 1) ≤ V := Nat.div_le_self _ _
                    rw [← hn.out] at h1
                    omega
                  have HF := Lib.hid (HN.out hbig)
                  clear hle hn hbig hfs
                  go_wp2_with fail
                  refine bodyPost_ret (v := .tuple #[.agg #[.int .i64 0, .int .i64 0], .int .i64 3]) (by simp [results, Tryd.results58, go_sem, *]) rfl ⟨?_, bel⟩
                  rw [HF.out]
end Go.Proofs.YtfhmjkdpohepaaaDoor
