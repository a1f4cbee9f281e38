import Derived.Test.YtankkadnhdfpfaaGreatDoorPk01
import Derived.Test.YtankkadnhdfpfaaGreatDoorShelf
import Derived.Test.YtankkadnhdfpfaaGreatDoorPk10
import Derived.OwnWalk
import Derived.Laws.OwnMore
import Derived.Sort.Grow
/- Spans: the closures of Join and Has, few, and the predicates of the reference, walked. -/
set_option linter.unusedSimpArgs false
set_option linter.unusedVariables false
namespace Go.Proofs.YtankkadnhdfpfaaGreatDoor.Sp
open Go.RowKit Go.Sort

def spC (s : Sp) : List Value := [.int .i64 s.1, .int .i64 s.2]

theorem join1_any (x : Sp) (w : World) : Calls Tryz.prog 123 #[.agg #[.int .i64 x.1, .int .i64 x.2]] w fun e w' => e = .returned (.bool (!okS x)) ∧ Below w.heap.size w w' := by
  obtain ⟨B, hB⟩ : ∃ B, okS x = B := ⟨_, rfl⟩
  rw [hB]
  have h2 : decide (x.2 < x.1) = !B := by rw [← hB]; unfold okS; rw [Bool.eq_iff_iff]; simp
  clear hB
  go_enter Tryz.func123, Tryz.ntmps123
  go_wp2_with fail
  all_goals go_ret
  all_goals exact ⟨ret_bool (by first | rfl | (simp_all; done) | (cases B <;> simp_all)), bel⟩

def cmpS (x y : Sp) : Int := Lib.compareInt x.1 y.1
theorem join2_any (x y : Sp) (W : World) : Calls Tryz.prog 125 #[.agg #[.int .i64 x.1, .int .i64 x.2], .agg #[.int .i64 y.1, .int .i64 y.2]] W fun e w' => e = .returned (.int .i64 (cmpS x y)) ∧ ∃ q os', w' = grow (W.drewN q) os' := by
  have hcon := fun W' => Tryz.cmp_Compare_int x.1 y.1 W'
  obtain ⟨r, hr⟩ : ∃ r, Lib.compareInt x.1 y.1 = r := ⟨_, rfl⟩
  have hr2 : cmpS x y = r := hr
  rw [hr2]
  rw [hr] at hcon
  clear hr hr2
  go_enter Tryz.func125, Tryz.ntmps125
  go_wp2_with (go_at_call 126; refine (hcon _).mono ?_; rintro e w' ⟨rfl, rfl⟩)
  go_ret
  exact ⟨rfl, 0, _, by rw [alloc_eq_grow, alloc_eq_grow, grow_grow]; rfl⟩

set_option maxHeartbeats 800000 in
theorem refSpans_any (xs : List Sp) (n : Int) (A : Option Addr) (c : Nat) (w : World) (hr : RdL w 2 A (xs.map spC)) (hn : xs.length ≤ 9223372036854775807) :
    Calls Tryz.prog 68 #[.slice A xs.length c, .int .i64 n] w fun e w' => e = .returned (.bool (inS xs n)) ∧ Below w.heap.size w w' := by
  obtain ⟨B, hB⟩ : ∃ B, inS xs n = B := ⟨_, rfl⟩
  rw [hB]
  have HB : Hid (B = inS (xs.drop 0) n) := hB.symm
  clear hB
  go_enter Tryz.func68, Tryz.ntmps68
  go_wp2_with fail
  go_loopg [5] xs.length (fun k i wr => ∃ j : Nat, j ≤ xs.length ∧ xs.length - j ≤ k ∧ Hid (B = inS (xs.drop j) n) ∧ i = .int .i64 j ∧ Below w.heap.size w wr)
  case atStart => exact ⟨0, by omega, by omega, HB, rfl, Below.refl _ _⟩
  case round =>
    obtain ⟨j, hj, hjk, hi, rfl, hbel⟩ := hrel
    by_cases hlt : j < xs.length
    · obtain ⟨b, off, rfl, hx⟩ := (hr.below hbel).at_ hlt
      have hst : inS (xs.drop j) n = (hasS (xs[j]'hlt) n || inS (xs.drop (j + 1)) n) := by rw [List.drop_eq_getElem_cons hlt]; rfl
      generalize xs[j]'hlt = y at *
      have g0 : wr.cell? ⟨b, off + j * 2, none⟩ = some (.int .i64 y.1) := hx.get 0 rfl
      have g1 : wr.cell? ⟨b, off + j * 2 + 1, none⟩ = some (.int .i64 y.2) := hx.get 1 rfl
      have HST := Lib.hid hst
      have hsz := hbel.size
      have i0 : (0 : Int) ≤ (j : Int) := by omega
      have i1 : (j : Int) < (xs.length : Int) := by omega
      clear hst hx
      by_cases h1 : y.1 ≤ n
      · by_cases h2 : n ≤ y.2
        · have HY : Hid (B = true) := by show B = _; rw [hi.out, HST.out]; simp [hasS, h1, h2]
          go_wp2_with fail
          go_ret
          exact ⟨ret_bool HY.out.symm, bel⟩
        · have HY : Hid (B = inS (xs.drop (j + 1)) n) := by show B = _; rw [hi.out, HST.out]; simp [hasS, h1, h2]
          go_wp2_with fail
          go_roundg (xs.length - (j + 1))
          case measure => omega
          case rel => exact ⟨j + 1, by omega, by omega, HY, by go_num, bel⟩
      · have HY : Hid (B = inS (xs.drop (j + 1)) n) := by show B = _; rw [hi.out, HST.out]; simp [hasS, h1]
        go_wp2_with fail
        go_roundg (xs.length - (j + 1))
        case measure => omega
        case rel => exact ⟨j + 1, by omega, by omega, HY, by go_num, bel⟩
    · have HY : Hid (B = false) := by show B = _; rw [hi.out, List.drop_eq_nil_of_le (by omega)]; rfl
      have i1 : ¬ ((j : Int) < (xs.length : Int)) := by omega
      go_wp2_with fail
      go_ret
      exact ⟨ret_bool HY.out.symm, bel⟩

set_option maxHeartbeats 800000 in
theorem refOrdered_any (xs : List Sp) (hxs : ordL xs) (hw : ∀ s ∈ xs, SpWf s) (A : Option Addr) (c : Nat) (w : World) (hr : RdL w 2 A (xs.map spC)) (hn : xs.length ≤ 9223372036854775807) :
    Calls Tryz.prog 76 #[.slice A xs.length c] w fun e w' => e = .returned (.bool true) ∧ Below w.heap.size w w' := by
  go_enter Tryz.func76, Tryz.ntmps76
  go_wp2_with fail
  go_loopg [3] xs.length (fun k i wr => ∃ j : Nat, j ≤ xs.length ∧ xs.length - j ≤ k ∧ i = .int .i64 j ∧ Below w.heap.size w wr)
  case atStart => exact ⟨0, by omega, by omega, rfl, Below.refl _ _⟩
  case round =>
    obtain ⟨j, hj, hjk, rfl, hbel⟩ := hrel
    by_cases hlt : j < xs.length
    · obtain ⟨b, off, rfl, hx⟩ := (hr.below hbel).at_ hlt
      have ho := (ordL_get xs hxs j hlt).1
      have hsz := hbel.size
      have i0 : (0 : Int) ≤ (j : Int) := by omega
      have i1 : (j : Int) < (xs.length : Int) := by omega
      have g0 : wr.cell? ⟨b, off + j * 2, none⟩ = some (.int .i64 (xs[j]'hlt).1) := hx.get 0 rfl
      have g1 : wr.cell? ⟨b, off + j * 2 + 1, none⟩ = some (.int .i64 (xs[j]'hlt).2) := hx.get 1 rfl
      rcases j with _ | i
      · generalize xs[0]'hlt = y at *
        have e1 : decide (y.2 < y.1) = false := decide_eq_false (by omega)
        clear hx ho
        try simp only [Int.natCast_zero, Nat.zero_mul, Nat.add_zero] at *
        go_wp2_with fail
        go_quiet (fail)
        go_wp2_with fail
        go_roundg (xs.length - 1)
        case measure => omega
        case rel => exact ⟨1, by omega, by omega, by go_num, bel⟩
      · have hp := (ordL_get xs hxs i (by omega)).2 hlt
        have hwp := hw _ (List.getElem_mem hlt)
        have hwz := hw _ (List.getElem_mem (show i < xs.length by omega))
        have g3 : wr.cell? ⟨b, off + i * 2 + 1, none⟩ = some (.int .i64 (xs[i]'(by omega)).2) := by
          have h3 := (hr.below hbel).at_ (show i < xs.length by omega)
          obtain ⟨b2, o2, e, hh⟩ := h3
          cases e
          exact hh.get 1 rfl
        generalize xs[i + 1]'hlt = y at *
        generalize xs[i]'(Nat.lt_of_succ_lt hlt) = z at *
        have e1 : decide (y.2 < y.1) = false := decide_eq_false (by omega)
        have e2 : decide (y.1 ≤ z.2) = false := decide_eq_false (by omega)
        have e3 : decide (y.1 - 1 ≤ z.2) = false := decide_eq_false (by omega)
        have e4 : decide ((0 : Int) < (i : Int) + 1) = true := decide_eq_true (by omega)
        have e8 : (i : Int) + 1 - 1 = (i : Int) := by omega
        have e9 : IntKind.i64.wrap ((i : Int) + 1 - 1) = (i : Int) := by rw [e8]; exact IntWalk.i64_in _ (by omega)
        have e5 : (i : Int) < (xs.length : Int) := by omega
        have e6 : (0 : Int) ≤ (i : Int) := by omega
        have e7 : IntKind.i64.wrap (y.1 - 1) = y.1 - 1 := IntWalk.i64_in _ (by have := hwp.l2; have := hwz.h1; omega)
        clear hx ho hp hwp hwz
        try simp only [Int.natCast_add, Int.natCast_one] at *
        go_wp2_with fail
        go_quiet (fail)
        go_wp2_with fail
        go_roundg (xs.length - (i + 2))
        case measure => omega
        case rel => exact ⟨i + 2, by omega, by omega, by go_num, bel⟩
    · have i1 : ¬ ((j : Int) < (xs.length : Int)) := by omega
      go_wp2_with fail
      go_ret
      exact ⟨ret_bool rfl, bel⟩
end Go.Proofs.YtankkadnhdfpfaaGreatDoor.Sp
