/- soffit/days: Leap, length, first, Date, pad, Text, walked. -/
import Derived.Test.YthicilfhnakhmaaGreatDoorDy0
import Derived.Test.YthicilfhnakhmaaGreatDoorTx1
set_option linter.unusedSimpArgs false
set_option linter.unusedVariables false
namespace Go.Proofs.YthicilfhnakhmaaGreatDoor
open Go.RowKit Go.Sort Go.Lib

set_option maxHeartbeats 800000 in
theorem dLeap_any (y : Int) (w : World) (h1 : 0 ≤ y) (h2 : y ≤ 100000) :
    Calls Tryz.prog 111 #[.int .i64 y] w fun e w' => e = .returned (.bool (leapB y)) ∧ w = w' := by
  obtain ⟨B, hB⟩ : ∃ B, leapB y = B := ⟨_, rfl⟩
  rw [hB]
  have HB := Lib.hid hB
  clear hB
  have t4 : y.tmod 4 = y % 4 := Int.tmod_eq_emod_of_nonneg h1
  have t100 : y.tmod 100 = y % 100 := Int.tmod_eq_emod_of_nonneg h1
  have t400 : y.tmod 400 = y % 400 := Int.tmod_eq_emod_of_nonneg h1
  by_cases c4 : y % 4 = 0
  · have e4 : (y % 4 == 0) = true := by rw [beq_iff_eq]; exact c4
    by_cases c100 : y % 100 = 0
    · have e100 : (y % 100 != 0) = false := by rw [c100]; rfl
      by_cases c400 : y % 400 = 0
      · have e400 : (y % 400 == 0) = true := by rw [beq_iff_eq]; exact c400
        have hr : B = true := by rw [← HB.out]; unfold leapB; simp [c4, c100, c400]
        clear c4 c100 c400
        go_enter Tryz.func111, Tryz.ntmps111
        go_wp2_with fail
        go_ret
        exact ⟨ret_bool hr.symm, rfl⟩
      · have e400 : (y % 400 == 0) = false := by rw [beq_eq_false_iff_ne]; exact c400
        have hr : B = false := by rw [← HB.out]; unfold leapB; simp [c4, c100, c400]
        clear c4 c100 c400
        go_enter Tryz.func111, Tryz.ntmps111
        go_wp2_with fail
        go_ret
        exact ⟨ret_bool hr.symm, rfl⟩
    · have e100 : (y % 100 != 0) = true := by rw [bne_iff_ne]; exact c100
      have hr : B = true := by rw [← HB.out]; unfold leapB; simp [c4, c100]
      clear c4 c100
      go_enter Tryz.func111, Tryz.ntmps111
      go_wp2_with fail
      go_ret
      exact ⟨ret_bool hr.symm, rfl⟩
  · have e4 : (y % 4 == 0) = false := by rw [beq_eq_false_iff_ne]; exact c4
    have hr : B = false := by rw [← HB.out]; unfold leapB; simp [c4]
    clear c4
    go_enter Tryz.func111, Tryz.ntmps111
    go_wp2_with fail
    go_ret
    exact ⟨ret_bool hr.symm, rfl⟩

set_option maxHeartbeats 800000 in
theorem dLength_any (y m : Int) (w : World) (h1 : 0 ≤ y) (h2 : y ≤ 100000) :
    Calls Tryz.prog 77 #[.int .i64 y, .int .i64 m] w fun e w' => e = .returned (.int .i64 (mLen y m)) ∧ w = w' := by
  obtain ⟨R, hR⟩ : ∃ R, mLen y m = R := ⟨_, rfl⟩
  rw [hR]
  have HR := Lib.hid hR
  clear hR
  by_cases m2 : m = 2
  · have e2 : (m == 2) = true := by rw [beq_iff_eq]; exact m2
    cases hl : leapB y
    · have hr : R = 28 := by rw [← HR.out]; unfold mLen; rw [if_pos m2, hl]; rfl
      clear m2
      go_enter Tryz.func77, Tryz.ntmps77
      go_wp2_with fail
      refine (dLeap_any y _ h1 h2).mono ?_
      rintro e w1 ⟨rfl, rfl⟩
      rw [hl]
      go_wp2_with fail
      go_ret
      exact ⟨ret_int hr.symm, rfl⟩
    · have hr : R = 29 := by rw [← HR.out]; unfold mLen; rw [if_pos m2, hl]; rfl
      clear m2
      go_enter Tryz.func77, Tryz.ntmps77
      go_wp2_with fail
      refine (dLeap_any y _ h1 h2).mono ?_
      rintro e w1 ⟨rfl, rfl⟩
      rw [hl]
      go_wp2_with fail
      go_ret
      exact ⟨ret_int hr.symm, rfl⟩
  · have e2 : (m == 2) = false := by rw [beq_eq_false_iff_ne]; exact m2
    by_cases m4 : m = 4
    · have hr : R = 30 := by rw [← HR.out]; unfold mLen; rw [if_neg m2, if_pos (.inl m4)]
      have e4 : (m == 4) = true := by rw [beq_iff_eq]; exact m4
      clear m2 m4
      go_enter Tryz.func77, Tryz.ntmps77
      go_wp2_with fail
      go_ret
      exact ⟨ret_int hr.symm, rfl⟩
    have e4 : (m == 4) = false := by rw [beq_eq_false_iff_ne]; exact m4
    by_cases m6 : m = 6
    · have hr : R = 30 := by rw [← HR.out]; unfold mLen; rw [if_neg m2, if_pos (.inr (.inl m6))]
      have e6 : (m == 6) = true := by rw [beq_iff_eq]; exact m6
      clear m2 m4 m6
      go_enter Tryz.func77, Tryz.ntmps77
      go_wp2_with fail
      go_ret
      exact ⟨ret_int hr.symm, rfl⟩
    have e6 : (m == 6) = false := by rw [beq_eq_false_iff_ne]; exact m6
    by_cases m9 : m = 9
    · have hr : R = 30 := by rw [← HR.out]; unfold mLen; rw [if_neg m2, if_pos (.inr (.inr (.inl m9)))]
      have e9 : (m == 9) = true := by rw [beq_iff_eq]; exact m9
      clear m2 m4 m6 m9
      go_enter Tryz.func77, Tryz.ntmps77
      go_wp2_with fail
      go_ret
      exact ⟨ret_int hr.symm, rfl⟩
    have e9 : (m == 9) = false := by rw [beq_eq_false_iff_ne]; exact m9
    by_cases m11 : m = 11
    · have hr : R = 30 := by rw [← HR.out]; unfold mLen; rw [if_neg m2, if_pos (.inr (.inr (.inr m11)))]
      have e11 : (m == 11) = true := by rw [beq_iff_eq]; exact m11
      clear m2 m4 m6 m9 m11
      go_enter Tryz.func77, Tryz.ntmps77
      go_wp2_with fail
      go_ret
      exact ⟨ret_int hr.symm, rfl⟩
    have e11 : (m == 11) = false := by rw [beq_eq_false_iff_ne]; exact m11
    have hr : R = 31 := by rw [← HR.out]; unfold mLen; rw [if_neg m2, if_neg (by rintro (h | h | h | h) <;> contradiction)]
    clear m2 m4 m6 m9 m11
    go_enter Tryz.func77, Tryz.ntmps77
    go_wp2_with fail
    go_ret
    exact ⟨ret_int hr.symm, rfl⟩

set_option maxHeartbeats 800000 in
theorem dFirst_any (y : Int) (w : World) (h1 : 1 ≤ y) (h2 : y ≤ 100000) :
    Calls Tryz.prog 76 #[.int .i64 y] w fun e w' => e = .returned (.int .i64 (fstY y)) ∧ w = w' := by
  obtain ⟨x, hx⟩ : ∃ x : Int, y - 1 = x := ⟨_, rfl⟩
  have hR : fstY y = 365 * x + x / 4 - x / 100 + x / 400 := by unfold fstY; rw [hx]
  obtain ⟨R, hR2⟩ : ∃ R, fstY y = R := ⟨_, rfl⟩
  rw [hR2] at hR ⊢
  have HR := Lib.hid hR
  clear hR hR2
  have hw1 : IntKind.i64.wrap (y - 1) = x := by rw [IntWalk.i64_in _ (by omega), hx]
  have x0 : 0 ≤ x := by omega
  have x1 : x ≤ 100000 := by omega
  clear hx
  have d4 : x.tdiv 4 = x / 4 := Int.tdiv_eq_ediv_of_nonneg x0
  have d100 : x.tdiv 100 = x / 100 := Int.tdiv_eq_ediv_of_nonneg x0
  have d400 : x.tdiv 400 = x / 400 := Int.tdiv_eq_ediv_of_nonneg x0
  have w1 : IntKind.i64.wrap (365 * x) = 365 * x := IntWalk.i64_in _ (by omega)
  have w2 : IntKind.i64.wrap (x / 4) = x / 4 := IntWalk.i64_in _ (by omega)
  have w3 : IntKind.i64.wrap (x / 100) = x / 100 := IntWalk.i64_in _ (by omega)
  have w4 : IntKind.i64.wrap (x / 400) = x / 400 := IntWalk.i64_in _ (by omega)
  have w5 : IntKind.i64.wrap (365 * x + x / 4) = 365 * x + x / 4 := IntWalk.i64_in _ (by omega)
  have w6 : IntKind.i64.wrap (365 * x + x / 4 - x / 100) = 365 * x + x / 4 - x / 100 := IntWalk.i64_in _ (by omega)
  have w7 : IntKind.i64.wrap (365 * x + x / 4 - x / 100 + x / 400) = 365 * x + x / 4 - x / 100 + x / 400 := IntWalk.i64_in _ (by omega)
  go_enter Tryz.func76, Tryz.ntmps76
  go_wp2_with fail
  go_ret
  exact ⟨ret_int HR.out.symm, rfl⟩
end Go.Proofs.YthicilfhnakhmaaGreatDoor
