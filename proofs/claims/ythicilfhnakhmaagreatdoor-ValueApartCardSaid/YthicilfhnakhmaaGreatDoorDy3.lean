/- soffitref02: Leap, Length, years, Date, padded, Text; soffitref01.Number: walked. -/
import Derived.Test.YthicilfhnakhmaaGreatDoorDy2
import Derived.Test.YthicilfhnakhmaaGreatDoorTx3
set_option linter.unusedSimpArgs false
set_option linter.unusedVariables false
namespace Go.Proofs.YthicilfhnakhmaaGreatDoor
open Go.RowKit Go.Sort Go.Lib

set_option maxHeartbeats 800000 in
theorem rLeap_any (y : Int) (w : World) (h1 : 0 ≤ y) (h2 : y ≤ 100000) :
    Calls Tryz.prog 113 #[.int .i64 y] w fun e w' => e = .returned (.bool (leapB y)) ∧ w = w' := by
  obtain ⟨B, hB⟩ : ∃ B, leapB y = B := ⟨_, rfl⟩
  rw [hB]
  have HB := Lib.hid hB
  clear hB
  have t4 : y.tmod 4 = y % 4 := Int.tmod_eq_emod_of_nonneg h1
  have t100 : y.tmod 100 = y % 100 := Int.tmod_eq_emod_of_nonneg h1
  have t400 : y.tmod 400 = y % 400 := Int.tmod_eq_emod_of_nonneg h1
  by_cases c400 : y % 400 = 0
  · have e400 : (y % 400 == 0) = true := by rw [beq_iff_eq]; exact c400
    have hr : B = true := by
      rw [← HB.out]; unfold leapB
      have c4 : y % 4 = 0 := by omega
      simp [c4, c400]
    clear c400
    go_enter Tryz.func113, Tryz.ntmps113
    go_wp2_with fail
    go_ret
    exact ⟨ret_bool hr.symm, rfl⟩
  · have e400 : (y % 400 == 0) = false := by rw [beq_eq_false_iff_ne]; exact c400
    by_cases c4 : y % 4 = 0
    · have e4 : (y % 4 == 0) = true := by rw [beq_iff_eq]; exact c4
      by_cases c100 : y % 100 = 0
      · have e100 : (y % 100 != 0) = false := by rw [c100]; rfl
        have hr : B = false := by rw [← HB.out]; unfold leapB; simp [c4, c100, c400]
        clear c4 c100 c400
        go_enter Tryz.func113, Tryz.ntmps113
        go_wp2_with fail
        go_ret
        exact ⟨ret_bool hr.symm, rfl⟩
      · have e100 : (y % 100 != 0) = true := by rw [bne_iff_ne]; exact c100
        have hr : B = true := by rw [← HB.out]; unfold leapB; simp [c4, c100]
        clear c4 c100 c400
        go_enter Tryz.func113, Tryz.ntmps113
        go_wp2_with fail
        go_ret
        exact ⟨ret_bool hr.symm, rfl⟩
    · have e4 : (y % 4 == 0) = false := by rw [beq_eq_false_iff_ne]; exact c4
      have hr : B = false := by rw [← HB.out]; unfold leapB; simp [c4]
      clear c4 c400
      go_enter Tryz.func113, Tryz.ntmps113
      go_wp2_with fail
      go_ret
      exact ⟨ret_bool hr.symm, rfl⟩

set_option maxHeartbeats 800000 in
theorem rYears_any (y : Int) (w : World) (h1 : 0 ≤ y) (h2 : y ≤ 100000) :
    Calls Tryz.prog 79 #[.int .i64 y] w fun e w' => e = .returned (.int .i64 (yearL y)) ∧ w = w' := by
  cases hl : leapB y
  · have hr : yearL y = 365 := by unfold yearL; rw [hl]; rfl
    rw [hr]
    go_enter Tryz.func79, Tryz.ntmps79
    go_wp2_with fail
    refine (rLeap_any y _ h1 h2).mono ?_
    rintro e w1 ⟨rfl, rfl⟩
    rw [hl]
    go_wp2_with fail
    go_ret
    exact ⟨rfl, rfl⟩
  · have hr : yearL y = 366 := by unfold yearL; rw [hl]; rfl
    rw [hr]
    go_enter Tryz.func79, Tryz.ntmps79
    go_wp2_with fail
    refine (rLeap_any y _ h1 h2).mono ?_
    rintro e w1 ⟨rfl, rfl⟩
    rw [hl]
    go_wp2_with fail
    go_ret
    exact ⟨rfl, rfl⟩

set_option maxRecDepth 100000 in
set_option maxHeartbeats 3200000 in
theorem rLength_any (y : Int) (m : Nat) (w : World) (h1 : 0 ≤ y) (h2 : y ≤ 100000) (hm : m < 12) :
    Calls Tryz.prog 80 #[.int .i64 y, .int .i64 ((m : Int) + 1)] w fun e w' => e = .returned (.int .i64 (mLen y ((m : Int) + 1))) ∧ Below w.heap.size w w' := by
  by_cases m1 : m = 1
  · subst m1
    have hm2 : (((1 : Nat) : Int) + 1) = 2 := rfl
    rw [hm2]
    cases hl : leapB y
    · have hr : mLen y 2 = 28 := by unfold mLen; rw [if_pos rfl, hl]; rfl
      rw [hr]
      go_enter Tryz.func80, Tryz.ntmps80
      go_wp2_with fail
      refine (rLeap_any y _ h1 h2).mono ?_
      rintro e w1 ⟨rfl, rfl⟩
      rw [hl]
      go_wp2_with fail
      go_ret
      exact ⟨rfl, (by repeat' (first | (with_reducible exact Below.refl _ _) | (with_reducible assumption) | (with_reducible refine Below.drew ?_) | (with_reducible refine below_drewN ?_ _) | (with_reducible refine below_iterAt ?_ ?_ _ _) | (with_reducible refine below_iter ?_ ?_ _ _) | (with_reducible refine Below.alloc ?_ ?_ _) | (with_reducible refine Below.setCell ?_ ?_ _) | (with_reducible refine Below.trans ?_ (Below.mono (by assumption) ?_)) | (simp only [sz_alloc, sz_set, sz_drew, sz_drewN, sz_iterAt, sz_iter] at *; omega) | omega | (simp; done) | (simp; omega) | (apply Below.size; assumption) | (simp only [sz_drew, sz_drewN]; apply Below.size; assumption) | (refine Nat.le_trans ?_ (Below.size (by assumption)))))⟩
    · have hr : mLen y 2 = 29 := by unfold mLen; rw [if_pos rfl, hl]; rfl
      rw [hr]
      go_enter Tryz.func80, Tryz.ntmps80
      go_wp2_with fail
      refine (rLeap_any y _ h1 h2).mono ?_
      rintro e w1 ⟨rfl, rfl⟩
      rw [hl]
      go_wp2_with fail
      go_ret
      exact ⟨rfl, (by repeat' (first | (with_reducible exact Below.refl _ _) | (with_reducible assumption) | (with_reducible refine Below.drew ?_) | (with_reducible refine below_drewN ?_ _) | (with_reducible refine below_iterAt ?_ ?_ _ _) | (with_reducible refine below_iter ?_ ?_ _ _) | (with_reducible refine Below.alloc ?_ ?_ _) | (with_reducible refine Below.setCell ?_ ?_ _) | (with_reducible refine Below.trans ?_ (Below.mono (by assumption) ?_)) | (simp only [sz_alloc, sz_set, sz_drew, sz_drewN, sz_iterAt, sz_iter] at *; omega) | omega | (simp; done) | (simp; omega) | (apply Below.size; assumption) | (simp only [sz_drew, sz_drewN]; apply Below.size; assumption) | (refine Nat.le_trans ?_ (Below.size (by assumption)))))⟩
  · obtain ⟨M, hM⟩ : ∃ M : Int, (m : Int) + 1 = M := ⟨_, rfl⟩
    rw [hM]
    have h12 : M = 1 ∨ M = 3 ∨ M = 4 ∨ M = 5 ∨ M = 6 ∨ M = 7 ∨ M = 8 ∨ M = 9 ∨ M = 10 ∨ M = 11 ∨ M = 12 := by omega
    clear m1 hm hM
    rcases h12 with rfl | rfl | rfl | rfl | rfl | rfl | rfl | rfl | rfl | rfl | rfl
    all_goals
      go_enter Tryz.func80, Tryz.ntmps80
      go_wp2_with fail
      go_ret
      refine ⟨ret_int ?_, (by repeat' (first | (with_reducible exact Below.refl _ _) | (with_reducible assumption) | (with_reducible refine Below.drew ?_) | (with_reducible refine below_drewN ?_ _) | (with_reducible refine below_iterAt ?_ ?_ _ _) | (with_reducible refine below_iter ?_ ?_ _ _) | (with_reducible refine Below.alloc ?_ ?_ _) | (with_reducible refine Below.setCell ?_ ?_ _) | (with_reducible refine Below.trans ?_ (Below.mono (by assumption) ?_)) | (simp only [sz_alloc, sz_set, sz_drew, sz_drewN, sz_iterAt, sz_iter] at *; omega) | omega | (simp; done) | (simp; omega) | (apply Below.size; assumption) | (simp only [sz_drew, sz_drewN]; apply Below.size; assumption) | (refine Nat.le_trans ?_ (Below.size (by assumption)))))⟩
      unfold mLen
      simp
end Go.Proofs.YthicilfhnakhmaaGreatDoor
