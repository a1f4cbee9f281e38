import Derived.Test.YtfhmjkdpohepaaaDoorPk01
import Derived.Test.YtfhmjkdpohepaaaDoorPk02
/- The numbers: soffit/deci, walked. -/
set_option linter.unusedSimpArgs false
set_option linter.unusedVariables false
namespace Go.Proofs.YtfhmjkdpohepaaaDoor
open Go.RowKit

theorem pow_le12 (n : Nat) (h : n ≤ 12) : 10 ^ n ≤ 1000000000000 := Nat.pow_le_pow_right (n := 10) (by omega) h

set_option maxHeartbeats 400000 in
theorem power_any (n : Nat) (h : n ≤ 12) (w : World) :
    Calls Tryd.prog 64 #[.int .i64 n] w fun e w' => e = .returned (.int .u64 ((10 ^ n : Nat) : Int)) ∧ w = w' := by
  go_enter Tryd.func64, Tryd.ntmps64
  go_wp2
  go_loop [3, 5] (fun p i => ∃ k : Nat, k ≤ n ∧ i = .int .i64 k ∧ p = .int .u64 ((10 ^ k : Nat) : Int)) (fun _ i => n - (intOf i).toNat)
  case atStart => exact ⟨0, by omega, rfl, rfl⟩
  case round =>
    obtain ⟨k, hk, rfl, rfl⟩ := hrel
    by_cases hlt : k < n
    · have hp := pow_le12 (k+1) (by omega)
      have hs : 10 ^ (k+1) = 10 ^ k * 10 := by rw [Nat.pow_succ]
      have HS := Lib.hid hs
      clear hs
      generalize ha : (10 ^ k : Nat) = a at *
      generalize hb : (10 ^ (k+1) : Nat) = b at *
      have HA := Lib.hid ha
      have HB := Lib.hid hb
      clear ha hb
      have hab : b ≤ a * 10 := Nat.le_of_eq HS.out
      have hab2 : a * 10 ≤ b := Nat.le_of_eq HS.out.symm
      go_wp2
      go_round
      case rel => exact ⟨k+1, by omega, by go_num, by rw [HB.out, HS.out]; go_num⟩
      case measure => simp [intOf]; omega
    · obtain rfl : k = n := by omega
      go_wp2
      go_ret
      exact ⟨rfl, rfl⟩

set_option maxHeartbeats 400000 in
theorem short_any (n s : Nat) (hn : n ≤ 18446744073709551615) (hs : s ≤ 6) (w : World) :
    Calls Tryd.prog 47 #[.agg #[.int .u64 n, .int .i64 s]] w fun e w' =>
      e = .returned (.agg #[.int .u64 (shU s n).1, .int .i64 (shU s n).2]) ∧ Below w.heap.size w w' := by
  go_enter Tryd.func47, Tryd.ntmps47
  go_wp2
  go_loopg [] s (fun k wr => ∃ m : Nat, m ≤ n ∧ k ≤ s ∧ Hid (shU s n = shU k m) ∧ wr = (w.alloc (.cells #[.int .u64 m, .int .i64 k] 58)).alloc (.cells #[.int .u64 0, .int .i64 0] 58))
  case atStart => exact ⟨n, Nat.le_refl _, Nat.le_refl _, rfl, rfl⟩
  case round =>
    obtain ⟨m, hm, hk, hsh, rfl⟩ := hrel
    rcases gk with _ | k
    · go_wp2
      refine bodyPost_ret (v := .agg #[.int .u64 (shU s n).1, .int .i64 (shU s n).2]) ?_ rfl ⟨rfl, ?_⟩
      · rw [hsh.out]
        simp [results, Tryd.results47, go_sem, shU_zero]
      · exact bel
    · by_cases h10 : m % 10 = 0
      · have HC := Lib.hid (shU_cut k m h10)
        have hb : ((m : Int) % 10 == 0) = true := by simp; omega
        go_wp2
        go_roundg k
        case measure => omega
        case rel =>
          refine ⟨m / 10, by omega, by omega, hsh.out.trans HC.out, ?_⟩
          rfl
      · have HC := Lib.hid (shU_stop k m h10)
        have hb : ((m : Int) % 10 == 0) = false := by simp; omega
        go_wp2
        refine bodyPost_ret (v := .agg #[.int .u64 (shU s n).1, .int .i64 (shU s n).2]) ?_ rfl ⟨rfl, ?_⟩
        · rw [hsh.out, HC.out]
          simp [results, Tryd.results47, go_sem]
        · exact bel


theorem power_p (n p : Nat) (h : n ≤ 12) (hp : 10 ^ n = p) (w : World) :
    Calls Tryd.prog 64 #[.int .i64 n] w fun e w' => e = .returned (.int .u64 p) ∧ w = w' := by
  subst hp
  exact power_any n h w
end Go.Proofs.YtfhmjkdpohepaaaDoor

/- The numbers: (form).dec and above. -/
set_option linter.unusedSimpArgs false
set_option linter.unusedVariables false
namespace Go.Proofs.YtfhmjkdpohepaaaDoor
open Go.RowKit

/-- what dec hands back -/
def decRes (b : Bool) (n s : Nat) : Value := if (shU s n).1 ≤ 999999999999 then .tuple #[.agg #[.int .i64 (sgn b (shU s n).1), .int .i64 (shU s n).2], .int .i64 0] else .tuple #[.agg #[.int .i64 0, .int .i64 0], .int .i64 3]
set_option maxHeartbeats 400000 in
theorem dec_any (n s : Nat) (b : Bool) (hn : n ≤ 18446744073709551615) (hs : s ≤ 6) (w : World) :
    Calls Tryd.prog 31 #[.agg #[.int .u64 n, .int .i64 s], .bool b] w fun e w' =>
      e = .returned (decRes b n s) ∧ Below w.heap.size w w' := by
  have hl := shU_le s n
  go_enter Tryd.func31, Tryd.ntmps31
  go_wp2_with fail
  refine (short_any n s hn hs _).mono ?_
  rintro e w1 ⟨rfl, hb1⟩
  have hz1 := hb1.size
  try simp at hz1
  obtain ⟨q1_0, l1_0, r1_0⟩ := aft hb1 (w.heap.size)
  obtain ⟨q1_1, l1_1, r1_1⟩ := aft hb1 (w.heap.size + 1)
  by_cases hle : (shU s n).1 ≤ 999999999999
  · have hd : decide ((999999999999 : Int) < ((shU s n).1 : Int)) = false := by simp; omega
    have hfin : ∀ b, decRes b n s = .tuple #[.agg #[.int .i64 (sgn b (shU s n).1), .int .i64 (shU s n).2], .int .i64 0] := fun b => if_pos hle
    have HF := Lib.hid hfin
    clear hfin
    cases b
    · go_wp2_with fail
      refine bodyPost_ret (v := .tuple #[.agg #[.int .i64 (shU s n).1, .int .i64 (shU s n).2], .int .i64 0]) ?_ rfl ⟨HF.out _ ▸ rfl, ?_⟩
      · simp [results, Tryd.results31, go_sem, *]
      · exact bel
    · go_wp2_with fail
      refine bodyPost_ret (v := .tuple #[.agg #[.int .i64 (-(shU s n).1), .int .i64 (shU s n).2], .int .i64 0]) ?_ rfl ⟨HF.out _ ▸ rfl, ?_⟩
      · simp [results, Tryd.results31, go_sem, *]
      · exact bel
  · have hd : decide ((999999999999 : Int) < ((shU s n).1 : Int)) = true := by simp; omega
    have hfin : decRes b n s = .tuple #[.agg #[.int .i64 0, .int .i64 0], .int .i64 3] := if_neg hle
    have HF := Lib.hid hfin
    clear hfin
    go_wp2_with fail
    refine bodyPost_ret (v := .tuple #[.agg #[.int .i64 0, .int .i64 0], .int .i64 3]) ?_ rfl ⟨HF.out ▸ rfl, ?_⟩
    · simp [results, Tryd.results31, go_sem, *]
    · exact bel

/-- what Make hands back -/
def makeRes (n s : Int) : Value := if decIn n s = true then .tuple #[.agg #[.int .i64 (mkN n s), .int .i64 (mkS n s)], .int .i64 0] else .tuple #[.agg #[.int .i64 0, .int .i64 0], .int .i64 3]
theorem makeRes_no {n s : Int} (h : decIn n s = false) : makeRes n s = .tuple #[.agg #[.int .i64 0, .int .i64 0], .int .i64 3] := by unfold makeRes; rw [h]; rfl
theorem makeRes_yes {n s : Int} (h : decIn n s = true) : makeRes n s = .tuple #[.agg #[.int .i64 (mkN n s), .int .i64 (mkS n s)], .int .i64 0] := if_pos h
theorem decRes_mk {n s : Int} (h : decIn n s = true) : decRes (decide (n < 0)) n.natAbs s.toNat = makeRes n s := by
  rw [makeRes_yes h]
  have := (shU_le s.toNat n.natAbs).1
  have := decIn_of h
  exact if_pos (by omega)

set_option maxHeartbeats 800000 in
theorem make_any (n s : Int) (w : World) (hn1 : -9223372036854775808 ≤ n) (hn2 : n ≤ 9223372036854775807) (hs1 : -9223372036854775808 ≤ s) (hs2 : s ≤ 9223372036854775807) :
    Calls Tryd.prog 17 #[.int .i64 n, .int .i64 s] w fun e w' => e = .returned (makeRes n s) ∧ Below w.heap.size w w' := by
  by_cases h : decIn n s = true
  · obtain ⟨h1, h2, h3, h4⟩ := decIn_of h
    by_cases hneg : n < 0
    · obtain ⟨m, rfl⟩ : ∃ m : Nat, n = -(m : Int) := ⟨n.natAbs, by omega⟩
      obtain ⟨t, rfl⟩ : ∃ t : Nat, s = (t : Int) := ⟨s.toNat, by omega⟩
      have hm : m ≤ 999999999999 := by omega
      have ht : t ≤ 6 := by omega
      have HG : Hid (decRes true m t = .tuple #[.agg #[.int .i64 (sgn true (shU t m).1), .int .i64 (shU t m).2], .int .i64 0]) := by
        have := (shU_le t m).1
        exact if_pos (by omega)
      have HF : Hid (makeRes (-(m : Int)) t = .tuple #[.agg #[.int .i64 (sgn true (shU t m).1), .int .i64 (shU t m).2], .int .i64 0]) := by
        have := decRes_mk h
        rw [Int.natAbs_neg, Int.natAbs_natCast, Int.toNat_natCast, decide_eq_true hneg] at this
        exact this.symm.trans HG.out
      have e1 : decide ((t : Int) < 0) = false := by simp
      have e2 : decide (6 < (t : Int)) = false := by simp; omega
      have e4 : decide (999999999999 < (m : Int)) = false := by simp; omega
      have e5 : decide (0 < m) = true := by simp; omega
      have e6 : (0 : Int) < m := by omega
      clear h hneg h1 h2 h3 h4 hs1 hs2 hn1 hn2
      generalize (shU t m).1 = a at *
      generalize (shU t m).2 = c at *
      go_enter Tryd.func17, Tryd.ntmps17
      go_wp2_with fail
      try rw [show max (-(m : Int)) (m : Int) = (m : Int) by omega]
      refine (dec_any m t true (by omega) ht _).mono ?_
      rintro e w1 ⟨rfl, hb1⟩
      rw [HG.out]
      have hz1 := hb1.size
      try simp at hz1
      obtain ⟨q1_0, l1_0, r1_0⟩ := aft hb1 (w.heap.size)
      go_wp2_with fail
      refine bodyPost_ret (v := .tuple #[.agg #[.int .i64 (sgn true a), .int .i64 c], .int .i64 0]) (by simp [results, Tryd.results17, go_sem, *]) rfl ⟨?_, bel⟩
      rw [HF.out]
    · obtain ⟨m, rfl⟩ : ∃ m : Nat, n = (m : Int) := ⟨n.natAbs, by omega⟩
      obtain ⟨t, rfl⟩ : ∃ t : Nat, s = (t : Int) := ⟨s.toNat, by omega⟩
      have hm : m ≤ 999999999999 := by omega
      have ht : t ≤ 6 := by omega
      have HG : Hid (decRes false m t = .tuple #[.agg #[.int .i64 (sgn false (shU t m).1), .int .i64 (shU t m).2], .int .i64 0]) := by
        have := (shU_le t m).1
        exact if_pos (by omega)
      have HF : Hid (makeRes ((m : Int)) t = .tuple #[.agg #[.int .i64 (sgn false (shU t m).1), .int .i64 (shU t m).2], .int .i64 0]) := by
        have := decRes_mk h
        rw [Int.natAbs_natCast, Int.toNat_natCast, decide_eq_false hneg] at this
        exact this.symm.trans HG.out
      have e1 : decide ((t : Int) < 0) = false := by simp
      have e2 : decide (6 < (t : Int)) = false := by simp; omega
      have e4 : decide (999999999999 < (m : Int)) = false := by simp; omega
      have e5 : -(m : Int) ≤ m := by omega
      clear h hneg h1 h2 h3 h4 hs1 hs2 hn1 hn2
      generalize (shU t m).1 = a at *
      generalize (shU t m).2 = c at *
      go_enter Tryd.func17, Tryd.ntmps17
      go_wp2_with fail
      try rw [show max (m : Int) (-(m : Int)) = (m : Int) by omega]
      refine (dec_any m t false (by omega) ht _).mono ?_
      rintro e w1 ⟨rfl, hb1⟩
      rw [HG.out]
      have hz1 := hb1.size
      try simp at hz1
      obtain ⟨q1_0, l1_0, r1_0⟩ := aft hb1 (w.heap.size)
      go_wp2_with fail
      refine bodyPost_ret (v := .tuple #[.agg #[.int .i64 (sgn false a), .int .i64 c], .int .i64 0]) (by simp [results, Tryd.results17, go_sem, *]) rfl ⟨?_, bel⟩
      rw [HF.out]
  · have h' : decIn n s = false := by simpa using h
    have HF := Lib.hid (makeRes_no h')
    have h0 : s < 0 ∨ (0 ≤ s ∧ 6 < s) ∨ (0 ≤ s ∧ s ≤ 6 ∧ 999999999999 < n) ∨ (0 ≤ s ∧ s ≤ 6 ∧ n ≤ 999999999999 ∧ n < -999999999999) := by
      simp [decIn] at h'; omega
    clear h h'
    rcases h0 with a | ⟨a, b⟩ | ⟨a, b, c⟩ | ⟨a, b, c, d⟩
    · have e1 : decide (s < 0) = true := by simp; omega
      go_enter Tryd.func17, Tryd.ntmps17
      go_wp2_with fail
      refine bodyPost_ret (v := .tuple #[.agg #[.int .i64 0, .int .i64 0], .int .i64 3]) (by simp [results, Tryd.results17, go_sem, *]) rfl ⟨?_, bel⟩
      rw [HF.out]
    · have e1 : decide (s < 0) = false := by simp; omega
      have e2 : decide (6 < s) = true := by simp; omega
      go_enter Tryd.func17, Tryd.ntmps17
      go_wp2_with fail
      refine bodyPost_ret (v := .tuple #[.agg #[.int .i64 0, .int .i64 0], .int .i64 3]) (by simp [results, Tryd.results17, go_sem, *]) rfl ⟨?_, bel⟩
      rw [HF.out]
    · have e1 : decide (s < 0) = false := by simp; omega
      have e2 : decide (6 < s) = false := by simp; omega
      have e3 : decide (999999999999 < n) = true := by simp; omega
      go_enter Tryd.func17, Tryd.ntmps17
      go_wp2_with fail
      refine bodyPost_ret (v := .tuple #[.agg #[.int .i64 0, .int .i64 0], .int .i64 3]) (by simp [results, Tryd.results17, go_sem, *]) rfl ⟨?_, bel⟩
      rw [HF.out]
    · have e1 : decide (s < 0) = false := by simp; omega
      have e2 : decide (6 < s) = false := by simp; omega
      have e3 : decide (999999999999 < n) = false := by simp; omega
      have e4 : decide (n < -999999999999) = true := by simp; omega
      go_enter Tryd.func17, Tryd.ntmps17
      go_wp2_with fail
      refine bodyPost_ret (v := .tuple #[.agg #[.int .i64 0, .int .i64 0], .int .i64 3]) (by simp [results, Tryd.results17, go_sem, *]) rfl ⟨?_, bel⟩
      rw [HF.out]
end Go.Proofs.YtfhmjkdpohepaaaDoor

/- The numbers: Sound. -/
set_option linter.unusedSimpArgs false
set_option linter.unusedVariables false
namespace Go.Proofs.YtfhmjkdpohepaaaDoor
open Go.RowKit

set_option maxHeartbeats 400000 in
theorem decSound_any (n s : Int) (w : World) (hn1 : -9223372036854775808 ≤ n) (hn2 : n ≤ 9223372036854775807) (hs1 : -9223372036854775808 ≤ s) (hs2 : s ≤ 9223372036854775807) :
    Calls Tryd.prog 45 #[.agg #[.int .i64 n, .int .i64 s]] w fun e w' => e = .returned (.bool (decSnd n s)) ∧ Below w.heap.size w w' := by
  by_cases h : decIn n s = true
  · have HM := Lib.hid (makeRes_yes h)
    have HF := Lib.hid (decIn_snd h)
    clear h
    generalize mkN n s = N at *
    generalize mkS n s = S at *
    go_enter Tryd.func45, Tryd.ntmps45
    go_wp2_with fail
    refine (make_any n s _ hn1 hn2 hs1 hs2).mono ?_
    rintro e w1 ⟨rfl, hb1⟩
    rw [HM.out]
    have hz1 := hb1.size
    try simp at hz1
    obtain ⟨q1_0, l1_0, r1_0⟩ := aft hb1 (w.heap.size)
    clear hn1 hn2 hs1 hs2
    go_wp2_with fail
    all_goals go_ret
    all_goals exact ⟨ret_bool (by rw [HF.out]; simp [*]), bel⟩
  · have h' : decIn n s = false := by simpa using h
    have HM := Lib.hid (makeRes_no h')
    have HF := Lib.hid (not_decIn_snd h')
    clear h h'
    go_enter Tryd.func45, Tryd.ntmps45
    go_wp2_with fail
    refine (make_any n s _ hn1 hn2 hs1 hs2).mono ?_
    rintro e w1 ⟨rfl, hb1⟩
    rw [HM.out]
    have hz1 := hb1.size
    try simp at hz1
    obtain ⟨q1_0, l1_0, r1_0⟩ := aft hb1 (w.heap.size)
    go_wp2_with fail
    go_ret
    exact ⟨ret_bool (by rw [HF.out]), bel⟩
end Go.Proofs.YtfhmjkdpohepaaaDoor
