import Derived.Test.YtfhmjkdpohepaaaDoorPk05
/- The reference's numbers: soffitref01.Make, Sound, walked. -/
set_option linter.unusedSimpArgs false
set_option linter.unusedVariables false
namespace Go.Proofs.YtfhmjkdpohepaaaDoor
open Go.RowKit

set_option maxHeartbeats 800000 in
theorem ref01Make_pos (m t : Nat) (w : World) (hm : m ≤ 999999999999) (ht : t ≤ 6) :
    Calls Tryd.prog 23 #[.int .i64 m, .int .i64 t] w fun e w' => e = .returned (.tuple #[.agg #[.int .i64 (shU t m).1, .int .i64 (shU t m).2], .int .i64 0]) ∧ Below w.heap.size w w' := by
  have e1 : decide ((t : Int) < 0) = false := by simp
  have e2 : decide (6 < (t : Int)) = false := by simp; omega
  have e3 : decide (999999999999 < (m : Int)) = false := by simp; omega
  go_enter Tryd.func23, Tryd.ntmps23
  go_wp2_with fail
  go_loopg [0, 1] t (fun k nv sv wr => ∃ j : Nat, j ≤ m ∧ k ≤ t ∧ Hid (shU t m = shU k j) ∧ nv = .int .i64 j ∧ sv = .int .i64 k ∧ wr = w.alloc (.cells #[.int .i64 0, .int .i64 0] 24))
  case atStart => exact ⟨m, Nat.le_refl _, Nat.le_refl _, rfl, rfl, rfl, rfl⟩
  case round =>
    obtain ⟨j, hj, hk, hsh, rfl, rfl, rfl⟩ := hrel
    rcases gk with _ | k
    · go_wp2_with fail
      refine bodyPost_ret (v := .tuple #[.agg #[.int .i64 (shU t m).1, .int .i64 (shU t m).2], .int .i64 0]) ?_ rfl ⟨rfl, bel⟩
      rw [hsh.out]
      simp [results, Tryd.results23, go_sem, shU_zero]
    · by_cases h10 : j % 10 = 0
      · have HC := Lib.hid (shU_cut k j h10)
        have hb : ((j : Int) % 10 == 0) = true := by simp; omega
        clear h10
        go_wp2_with fail
        go_roundg k
        case measure => omega
        case rel => exact ⟨j / 10, by omega, by omega, hsh.out.trans HC.out, by go_num, by go_num, rfl⟩
      · have HC := Lib.hid (shU_stop k j h10)
        have hb : ((j : Int) % 10 == 0) = false := by simp; omega
        clear h10
        go_wp2_with fail
        refine bodyPost_ret (v := .tuple #[.agg #[.int .i64 (shU t m).1, .int .i64 (shU t m).2], .int .i64 0]) ?_ rfl ⟨rfl, bel⟩
        rw [hsh.out, HC.out]
        simp [results, Tryd.results23, go_sem]

set_option maxHeartbeats 800000 in
theorem ref01Make_neg (m t : Nat) (w : World) (hm : m ≤ 999999999999) (hp : 0 < m) (ht : t ≤ 6) :
    Calls Tryd.prog 23 #[.int .i64 (-(m : Int)), .int .i64 t] w fun e w' => e = .returned (.tuple #[.agg #[.int .i64 (-((shU t m).1 : Int)), .int .i64 (shU t m).2], .int .i64 0]) ∧ Below w.heap.size w w' := by
  have e1 : decide ((t : Int) < 0) = false := by simp
  have e2 : decide (6 < (t : Int)) = false := by simp; omega
  have e4 : decide (999999999999 < (m : Int)) = false := by simp; omega
  have e6 : (0 : Int) < m := by omega
  go_enter Tryd.func23, Tryd.ntmps23
  go_wp2_with fail
  go_loopg [0, 1] t (fun k nv sv wr => ∃ j : Nat, j ≤ m ∧ k ≤ t ∧ Hid (shU t m = shU k j) ∧ nv = .int .i64 (-(j : Int)) ∧ sv = .int .i64 k ∧ wr = w.alloc (.cells #[.int .i64 0, .int .i64 0] 24))
  case atStart => exact ⟨m, Nat.le_refl _, Nat.le_refl _, rfl, rfl, rfl, rfl⟩
  case round =>
    obtain ⟨j, hj, hk, hsh, rfl, rfl, rfl⟩ := hrel
    rcases gk with _ | k
    · go_wp2_with fail
      refine bodyPost_ret (v := .tuple #[.agg #[.int .i64 (-((shU t m).1 : Int)), .int .i64 (shU t m).2], .int .i64 0]) ?_ rfl ⟨rfl, bel⟩
      rw [hsh.out]
      simp [results, Tryd.results23, go_sem, shU_zero]
    · by_cases h10 : j % 10 = 0
      · have HC := Lib.hid (shU_cut k j h10)
        have hb : (-((j : Int) % 10) == 0) = true := by simp; omega
        clear h10
        go_wp2_with fail
        go_roundg k
        case measure => omega
        case rel => exact ⟨j / 10, by omega, by omega, hsh.out.trans HC.out, by go_num, by go_num, rfl⟩
      · have HC := Lib.hid (shU_stop k j h10)
        have hb : (-((j : Int) % 10) == 0) = false := by simp; omega
        clear h10
        go_wp2_with fail
        refine bodyPost_ret (v := .tuple #[.agg #[.int .i64 (-((shU t m).1 : Int)), .int .i64 (shU t m).2], .int .i64 0]) ?_ rfl ⟨rfl, bel⟩
        rw [hsh.out, HC.out]
        simp [results, Tryd.results23, go_sem]

set_option maxHeartbeats 800000 in
theorem ref01Make_any (n s : Int) (w : World) : 
    Calls Tryd.prog 23 #[.int .i64 n, .int .i64 s] w fun e w' => e = .returned (makeRes n s) ∧ Below w.heap.size w w' := by
  by_cases h : decIn n s = true
  · obtain ⟨h1, h2, h3, h4⟩ := decIn_of h
    obtain ⟨t, rfl⟩ : ∃ t : Nat, s = (t : Int) := ⟨s.toNat, by omega⟩
    by_cases hneg : n < 0
    · obtain ⟨m, rfl⟩ : ∃ m : Nat, n = -(m : Int) := ⟨n.natAbs, by omega⟩
      refine (ref01Make_neg m t w (by omega) (by omega) (by omega)).mono fun e w' ⟨he, hb⟩ => ⟨?_, hb⟩
      rw [he, makeRes_yes h, mkN, mkS, decide_eq_true hneg, Int.natAbs_neg, Int.natAbs_natCast, Int.toNat_natCast]; rfl
    · obtain ⟨m, rfl⟩ : ∃ m : Nat, n = (m : Int) := ⟨n.natAbs, by omega⟩
      refine (ref01Make_pos m t w (by omega) (by omega)).mono fun e w' ⟨he, hb⟩ => ⟨?_, hb⟩
      rw [he, makeRes_yes h, mkN, mkS, decide_eq_false hneg, Int.natAbs_natCast, Int.toNat_natCast]; rfl
  · have h' : decIn n s = false := by simpa using h
    have HF := Lib.hid (makeRes_no h')
    have h0 : s < 0 ∨ (0 ≤ s ∧ 6 < s) ∨ (0 ≤ s ∧ s ≤ 6 ∧ 999999999999 < n) ∨ (0 ≤ s ∧ s ≤ 6 ∧ n ≤ 999999999999 ∧ n < -999999999999) := by
      simp [decIn] at h'; omega
    clear h h'
    rcases h0 with a | ⟨a, b⟩ | ⟨a, b, c⟩ | ⟨a, b, c, d⟩
    · have e1 : decide (s < 0) = true := by simp; omega
      go_enter Tryd.func23, Tryd.ntmps23
      go_wp2_with fail
      refine bodyPost_ret (v := .tuple #[.agg #[.int .i64 0, .int .i64 0], .int .i64 3]) (by simp [results, Tryd.results23, go_sem, *]) rfl ⟨?_, bel⟩
      rw [HF.out]
    · have e1 : decide (s < 0) = false := by simp; omega
      have e2 : decide (6 < s) = true := by simp; omega
      go_enter Tryd.func23, Tryd.ntmps23
      go_wp2_with fail
      refine bodyPost_ret (v := .tuple #[.agg #[.int .i64 0, .int .i64 0], .int .i64 3]) (by simp [results, Tryd.results23, go_sem, *]) rfl ⟨?_, bel⟩
      rw [HF.out]
    · have e1 : decide (s < 0) = false := by simp; omega
      have e2 : decide (6 < s) = false := by simp; omega
      have e3 : decide (999999999999 < n) = true := by simp; omega
      go_enter Tryd.func23, Tryd.ntmps23
      go_wp2_with fail
      refine bodyPost_ret (v := .tuple #[.agg #[.int .i64 0, .int .i64 0], .int .i64 3]) (by simp [results, Tryd.results23, go_sem, *]) rfl ⟨?_, bel⟩
      rw [HF.out]
    · have e1 : decide (s < 0) = false := by simp; omega
      have e2 : decide (6 < s) = false := by simp; omega
      have e3 : decide (999999999999 < n) = false := by simp; omega
      have e4 : decide (n < -999999999999) = true := by simp; omega
      go_enter Tryd.func23, Tryd.ntmps23
      go_wp2_with fail
      refine bodyPost_ret (v := .tuple #[.agg #[.int .i64 0, .int .i64 0], .int .i64 3]) (by simp [results, Tryd.results23, go_sem, *]) rfl ⟨?_, bel⟩
      rw [HF.out]

set_option maxHeartbeats 400000 in
theorem ref01Sound_any (n s : Int) (w : World) :
    Calls Tryd.prog 38 #[.agg #[.int .i64 n, .int .i64 s]] w fun e w' => e = .returned (.bool (decSnd n s)) ∧ Below w.heap.size w w' := by
  obtain ⟨B, hB⟩ : ∃ B, decSnd n s = B := ⟨_, rfl⟩
  rw [hB]
  by_cases h : decIn n s = true
  · have HM := Lib.hid (makeRes_yes h)
    have HF : Hid (B = (mkN n s == n && mkS n s == s)) := by rw [← hB]; exact decIn_snd h
    clear h hB
    generalize mkN n s = N at *
    generalize mkS n s = S at *
    go_enter Tryd.func38, Tryd.ntmps38
    go_wp2_with fail
    refine (ref01Make_any n s _).mono ?_
    rintro e w1 ⟨rfl, hb1⟩
    rw [HM.out]
    have hz1 := hb1.size
    try simp at hz1
    obtain ⟨q1_0, l1_0, r1_0⟩ := aft hb1 (w.heap.size)
    go_wp2_with fail
    all_goals go_ret
    all_goals exact ⟨ret_bool (by first | (rw [HF.out]; done) | (rw [HF.out]; simp [*]; done) | (rw [HF.out]; simp; omega) | (rw [HF.out]; simp [*]; omega) | (rw [HF.out]; simp only [List.isEmpty_iff, List.isEmpty_eq_false_iff] at *; simp [*]; done) | (rw [HF.out]; simp only [List.isEmpty_iff, List.isEmpty_eq_false_iff] at *; simp [*]; omega) | (rw [HF.out, Bool.eq_iff_iff]; simp only [List.isEmpty_iff, List.isEmpty_eq_false_iff] at *; simp [*]; done) | (exfalso; omega)), bel⟩
  · have h' : decIn n s = false := by simpa using h
    have HM := Lib.hid (makeRes_no h')
    have HF : Hid (B = false) := by rw [← hB]; exact not_decIn_snd h'
    clear h h' hB
    go_enter Tryd.func38, Tryd.ntmps38
    go_wp2_with fail
    refine (ref01Make_any n s _).mono ?_
    rintro e w1 ⟨rfl, hb1⟩
    rw [HM.out]
    have hz1 := hb1.size
    try simp at hz1
    obtain ⟨q1_0, l1_0, r1_0⟩ := aft hb1 (w.heap.size)
    go_wp2_with fail
    all_goals go_ret
    all_goals exact ⟨ret_bool (by first | (rw [HF.out]; done) | (rw [HF.out]; simp [*]; done) | (rw [HF.out]; simp; omega) | (rw [HF.out]; simp [*]; omega) | (rw [HF.out]; simp only [List.isEmpty_iff, List.isEmpty_eq_false_iff] at *; simp [*]; done) | (rw [HF.out]; simp only [List.isEmpty_iff, List.isEmpty_eq_false_iff] at *; simp [*]; omega) | (rw [HF.out, Bool.eq_iff_iff]; simp only [List.isEmpty_iff, List.isEmpty_eq_false_iff] at *; simp [*]; done) | (exfalso; omega)), bel⟩
end Go.Proofs.YtfhmjkdpohepaaaDoor
