/- The numbers: soffit/deci, walked. -/
import Derived.Test.YthicilfhnakhmaaGreatDoorBase
import Derived.Test.YthicilfhnakhmaaGreatDoorNum
set_option linter.unusedSimpArgs false
set_option linter.unusedVariables false
namespace Go.Proofs.YthicilfhnakhmaaGreatDoor
open Go.RowKit

theorem pow_le12 (n : Nat) (h : n ≤ 12) : 10 ^ n ≤ 1000000000000 := Nat.pow_le_pow_right (n := 10) (by omega) h

set_option maxHeartbeats 400000 in
theorem power_any (n : Nat) (h : n ≤ 12) (w : World) :
    Calls Tryz.prog 95 #[.int .i64 n] w fun e w' => e = .returned (.int .u64 ((10 ^ n : Nat) : Int)) ∧ w = w' := by
  go_enter Tryz.func95, Tryz.ntmps95
  go_wp2
  go_loop [3, 5] (fun p i => ∃ k : Nat, k ≤ n ∧ i = .int .i64 k ∧ p = .int .u64 ((10 ^ k : Nat) : Int)) (fun _ i => n - (intOf i).toNat)
  case atStart => exact ⟨0, by omega, rfl, rfl⟩
  case round =>
    obtain ⟨k, hk, rfl, rfl⟩ := hrel
    by_cases hlt : k < n
    · have hp := pow_le12 (k+1) (by omega)
      have hs : 10 ^ (k+1) = 10 ^ k * 10 := by rw [Nat.pow_succ]
      have HS := Lib.hid hs
      clear hs
      generalize ha : (10 ^ k : Nat) = a at *
      generalize hb : (10 ^ (k+1) : Nat) = b at *
      have HA := Lib.hid ha
      have HB := Lib.hid hb
      clear ha hb
      have hab : b ≤ a * 10 := Nat.le_of_eq HS.out
      have hab2 : a * 10 ≤ b := Nat.le_of_eq HS.out.symm
      go_wp2
      go_round
      case rel => exact ⟨k+1, by omega, by go_num, by rw [HB.out, HS.out]; go_num⟩
      case measure => simp [intOf]; omega
    · obtain rfl : k = n := by omega
      go_wp2
      go_ret
      exact ⟨rfl, rfl⟩

set_option maxHeartbeats 400000 in
theorem short_any (n s : Nat) (hn : n ≤ 18446744073709551615) (hs : s ≤ 6) (w : World) :
    Calls Tryz.prog 114 #[.agg #[.int .u64 n, .int .i64 s]] w fun e w' =>
      e = .returned (.agg #[.int .u64 (shU s n).1, .int .i64 (shU s n).2]) ∧ Below w.heap.size w w' := by
  go_enter Tryz.func114, Tryz.ntmps114
  go_wp2
  go_loopg [] s (fun k wr => ∃ m : Nat, m ≤ n ∧ k ≤ s ∧ Hid (shU s n = shU k m) ∧ wr = (w.alloc (.cells #[.int .u64 m, .int .i64 k] 116)).alloc (.cells #[.int .u64 0, .int .i64 0] 116))
  case atStart => exact ⟨n, Nat.le_refl _, Nat.le_refl _, rfl, rfl⟩
  case round =>
    obtain ⟨m, hm, hk, hsh, rfl⟩ := hrel
    rcases gk with _ | k
    · go_wp2
      refine bodyPost_ret (v := .agg #[.int .u64 (shU s n).1, .int .i64 (shU s n).2]) ?_ rfl ⟨rfl, ?_⟩
      · rw [hsh.out]
        simp [results, Tryz.results114, go_sem, shU_zero]
      · exact (by repeat' (first | (with_reducible exact Below.refl _ _) | (with_reducible assumption) | (with_reducible refine Below.drew ?_) | (with_reducible refine below_drewN ?_ _) | (with_reducible refine below_iterAt ?_ ?_ _ _) | (with_reducible refine below_iter ?_ ?_ _ _) | (with_reducible refine Below.alloc ?_ ?_ _) | (with_reducible refine Below.setCell ?_ ?_ _) | (with_reducible refine Below.trans ?_ (Below.mono (by assumption) ?_)) | (simp only [sz_alloc, sz_set, sz_drew, sz_drewN, sz_iterAt, sz_iter] at *; omega) | omega | (simp; done) | (simp; omega) | (apply Below.size; assumption) | (simp only [sz_drew, sz_drewN]; apply Below.size; assumption) | (refine Nat.le_trans ?_ (Below.size (by assumption)))))
    · by_cases h10 : m % 10 = 0
      · have HC := Lib.hid (shU_cut k m h10)
        have hb : ((m : Int) % 10 == 0) = true := by simp; omega
        go_wp2
        go_roundg k
        case measure => omega
        case rel =>
          refine ⟨m / 10, by omega, by omega, hsh.out.trans HC.out, ?_⟩
          rfl
      · have HC := Lib.hid (shU_stop k m h10)
        have hb : ((m : Int) % 10 == 0) = false := by simp; omega
        go_wp2
        refine bodyPost_ret (v := .agg #[.int .u64 (shU s n).1, .int .i64 (shU s n).2]) ?_ rfl ⟨rfl, ?_⟩
        · rw [hsh.out, HC.out]
          simp [results, Tryz.results114, go_sem]
        · exact (by repeat' (first | (with_reducible exact Below.refl _ _) | (with_reducible assumption) | (with_reducible refine Below.drew ?_) | (with_reducible refine below_drewN ?_ _) | (with_reducible refine below_iterAt ?_ ?_ _ _) | (with_reducible refine below_iter ?_ ?_ _ _) | (with_reducible refine Below.alloc ?_ ?_ _) | (with_reducible refine Below.setCell ?_ ?_ _) | (with_reducible refine Below.trans ?_ (Below.mono (by assumption) ?_)) | (simp only [sz_alloc, sz_set, sz_drew, sz_drewN, sz_iterAt, sz_iter] at *; omega) | omega | (simp; done) | (simp; omega) | (apply Below.size; assumption) | (simp only [sz_drew, sz_drewN]; apply Below.size; assumption) | (refine Nat.le_trans ?_ (Below.size (by assumption)))))


theorem power_p (n p : Nat) (h : n ≤ 12) (hp : 10 ^ n = p) (w : World) :
    Calls Tryz.prog 95 #[.int .i64 n] w fun e w' => e = .returned (.int .u64 p) ∧ w = w' := by
  subst hp
  exact power_any n h w
end Go.Proofs.YthicilfhnakhmaaGreatDoor
