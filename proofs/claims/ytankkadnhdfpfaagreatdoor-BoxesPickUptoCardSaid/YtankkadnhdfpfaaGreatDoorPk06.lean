import Derived.Test.YtankkadnhdfpfaaGreatDoorPk05
import Derived.Test.YtankkadnhdfpfaaGreatDoorPk02
import Derived.OwnWalk
import Derived.Test.YtankkadnhdfpfaaGreatDoorPsRef01
/- soffit/deci.At, walked. -/
set_option linter.unusedSimpArgs false
set_option linter.unusedVariables false
namespace Go.Proofs.YtankkadnhdfpfaaGreatDoor
open Go.RowKit

def atRes (n s sc : Int) : Value := if 0 ≤ sc ∧ sc ≤ 6 then (if decSnd n s = true then .tuple #[.int .i64 (atI n s sc), .bool (atE n s sc), .int .i64 0] else .tuple #[.int .i64 0, .bool false, .int .i64 2]) else .tuple #[.int .i64 0, .bool false, .int .i64 1]
theorem atRes_arg {n s sc : Int} (h : ¬ (0 ≤ sc ∧ sc ≤ 6)) : atRes n s sc = .tuple #[.int .i64 0, .bool false, .int .i64 1] := if_neg h
theorem atRes_form {n s sc : Int} (h : 0 ≤ sc ∧ sc ≤ 6) (hd : decSnd n s = false) : atRes n s sc = .tuple #[.int .i64 0, .bool false, .int .i64 2] := by unfold atRes; rw [if_pos h, hd]; rfl
theorem atRes_yes {n s sc : Int} (h : 0 ≤ sc ∧ sc ≤ 6) (hd : decSnd n s = true) : atRes n s sc = .tuple #[.int .i64 (atI n s sc), .bool (atE n s sc), .int .i64 0] := by unfold atRes; rw [if_pos h, if_pos hd]

set_option maxRecDepth 100000 in
set_option maxHeartbeats 3200000 in
theorem decAt_any (n s sc : Int) (w : World) (hn : I64 n) (hs : I64 s) :
    Calls Tryz.prog 96 #[.agg #[.int .i64 n, .int .i64 s], .int .i64 sc] w fun e w' => e = .returned (atRes n s sc) ∧ Below w.heap.size w w' := by
  by_cases hsc : 0 ≤ sc ∧ sc ≤ 6
  · cases hd : decSnd n s
    · have HF := Lib.hid (atRes_form hsc hd)
      have HD := Lib.hid hd
      have h1 : ¬ sc < 0 := by omega
      have h2 : ¬ 6 < sc := by omega
      clear hd
      rw [HF.out]
      go_enter Tryz.func96, Tryz.ntmps96
      go_wp2_with fail
      refine (all1_any _ n s _ (by first | omega | (simp only [sz_alloc, sz_set, sz_drew, sz_drewN, sz_iterAt, sz_iter] at *; omega) | (simp; done) | (simp; omega) | (simp at *; omega)) (by first | (simp [go_sem]; done) | (simp [go_sem, *]; done)) (by first | (simp [go_sem]; done) | (simp [go_sem, *]; done)) hn hs).mono ?_
      rintro e w1 ⟨rfl, hb1⟩
      rw [HD.out, okE_false]
      have hz1 := hb1.size
      try simp at hz1
      obtain ⟨q1_0, l1_0, r1_0⟩ := aft hb1 (w.heap.size)
      go_wp2_with fail
      go_ret3
      exact ⟨rfl, bel⟩
    · obtain ⟨a1, a2, a3, a4, -⟩ := decSnd_of hd
      have HF := Lib.hid (atRes_yes hsc hd)
      have HD := Lib.hid hd
      have h1 : ¬ sc < 0 := by omega
      have h2 : ¬ 6 < sc := by omega
      have hu := units_bd a3 a4 a1 a2
      have hq := at_bd (sc := sc) a3 a4 a1 a2
      obtain ⟨x, hx⟩ : ∃ x, unitsI n s = x := ⟨_, rfl⟩
      obtain ⟨t, rfl⟩ : ∃ t : Nat, sc = (t : Int) := ⟨sc.toNat, by omega⟩
      obtain ⟨p, hp⟩ : ∃ p, 10 ^ (6 - t) = p := ⟨_, rfl⟩
      have hby : byI t = (p : Int) := by unfold byI; rw [← hp, Int.toNat_natCast]; norm_cast
      have hp0 := byI_pos t
      have hp1 := byI_le t
      rw [hby] at hp0 hp1
      obtain ⟨t1, t2⟩ := tdiv_floor (x := x) hp0
      have hq2 : atI n s t = x / (p : Int) := by unfold atI; rw [hx, hby]
      have hq3 : atE n s t = (x % (p : Int) == 0) := by unfold atE; rw [hx, hby]
      rw [hx] at hu
      rw [hq2] at hq
      have HU := Lib.hid hx
      have HP := Lib.hid hp
      have hsub : IntKind.i64.wrap (6 - (t : Int)) = ((6 - t : Nat) : Int) := by rw [IntWalk.i64_in _ (by omega)]; omega
      have hpw : IntKind.i64.wrap (p : Int) = p := IntWalk.i64_in _ (by omega)
      have hpz : ((p : Int) == 0) = false := by rw [Bool.eq_false_iff]; intro h; have := beq_iff_eq.1 h; omega
      have hpz2 : ¬ (p : Int) = 0 := by omega
      have hpz3 : ¬ p = 0 := by omega
      have hR : Hid (atRes n s t = .tuple #[.int .i64 (x / (p : Int)), .bool (x % (p : Int) == 0), .int .i64 0]) := by show _ = _; rw [HF.out, hq2, hq3]
      rw [hR.out]
      have hqq : IntKind.i64.wrap (x.tdiv (p : Int)) = x.tdiv (p : Int) := IntWalk.i64_in _ (by split at t1 <;> omega)
      have hrr : IntKind.i64.wrap (x.tmod (p : Int)) = x.tmod (p : Int) := IntWalk.i64_in _ (by have h5 := Int.tmod_lt_of_pos x hp0; have h6 := Int.tmod_lt_of_pos (-x) hp0; rw [Int.neg_tmod] at h6; omega)
      have T1 := Lib.hid t1
      have T2 := Lib.hid t2
      have HQ := Lib.hid hq
      clear hd hx hp hby t1 t2 hq2 hq3 hq HF
      go_enter Tryz.func96, Tryz.ntmps96
      go_wp2_with fail
      refine (all1_any _ n s _ (by first | omega | (simp only [sz_alloc, sz_set, sz_drew, sz_drewN, sz_iterAt, sz_iter] at *; omega) | (simp; done) | (simp; omega) | (simp at *; omega)) (by first | (simp [go_sem]; done) | (simp [go_sem, *]; done)) (by first | (simp [go_sem]; done) | (simp [go_sem, *]; done)) hn hs).mono ?_
      rintro e w1 ⟨rfl, hb1⟩
      rw [HD.out, okE_true]
      have hz1 := hb1.size
      try simp at hz1
      obtain ⟨q1_0, l1_0, r1_0⟩ := aft hb1 (w.heap.size)
      go_wp2_with fail
      refine (power_p (6 - t) p (by omega) HP.out _).mono ?_
      rintro e w2 ⟨rfl, rfl⟩
      go_wp2_with fail
      refine (units_any n s _ a3 a4 a1 a2).mono ?_
      rintro e w3 ⟨rfl, hb3⟩
      rw [HU.out]
      have hz3 := hb3.size
      try simp at hz3
      obtain ⟨q3_0, l3_0, r3_0⟩ := aft hb3 (w.heap.size)
      go_wp2_with fail
      refine (units_any n s _ a3 a4 a1 a2).mono ?_
      rintro e w4 ⟨rfl, hb4⟩
      rw [HU.out]
      have hz4 := hb4.size
      try simp at hz4
      obtain ⟨q4_0, l4_0, r4_0⟩ := aft hb4 (w.heap.size)
      rcases Int.lt_or_le (x.tmod (p : Int)) 0 with hneg | hneg
      · have hval : wrap64 (x.tdiv (p : Int) - 1) = x / (p : Int) := by
          have h1 := T1.out
          have h2 := HQ.out
          rw [if_pos hneg] at h1
          rw [h1]
          exact (IntWalk.i64_left _).symm.trans (IntWalk.i64_in _ (by omega))
        go_wp2_with fail
        have kk0 : w4.cell? ⟨w.heap.size, 0, none⟩ = some (.int .i64 n) := cel
        have kk1 : w4.cell? ⟨w.heap.size, 1, none⟩ = some (.int .i64 s) := cel
        go_region_held3 (fun w' => Below w4.heap.size w4 w' ∧ w'.cell? ⟨w.heap.size, 0, none⟩ = some (.int .i64 n) ∧ w'.cell? ⟨w.heap.size, 1, none⟩ = some (.int .i64 s)) ((refine and_keep ?_ (fun hk => ⟨keep_cell hk l4_0 kk0, keep_cell hk l4_0 kk1⟩); exact bel))
          (first
            | (go_at_call 142; refine (units_any n s _ a3 a4 a1 a2).mono ?_; rintro e w' ⟨rfl, hb'⟩))
        try rw [HU.out]
        go_wp2_with fail
        refine bodyPost_ret (v := .tuple #[.int .i64 (x / (p : Int)), .bool (x % (p : Int) == 0), .int .i64 0]) ?_ rfl ⟨rfl, bel⟩
        simp [results, Tryz.results96, go_sem, hval, T2.out]
      · have hval : x.tdiv (p : Int) = x / (p : Int) := by
          have h1 := T1.out
          rw [if_neg (by omega)] at h1
          exact h1
        go_wp2_with fail
        have kk0 : w4.cell? ⟨w.heap.size, 0, none⟩ = some (.int .i64 n) := cel
        have kk1 : w4.cell? ⟨w.heap.size, 1, none⟩ = some (.int .i64 s) := cel
        go_region_held3 (fun w' => Below w4.heap.size w4 w' ∧ w'.cell? ⟨w.heap.size, 0, none⟩ = some (.int .i64 n) ∧ w'.cell? ⟨w.heap.size, 1, none⟩ = some (.int .i64 s)) ((refine and_keep ?_ (fun hk => ⟨keep_cell hk l4_0 kk0, keep_cell hk l4_0 kk1⟩); exact bel))
          (first
            | (go_at_call 142; refine (units_any n s _ a3 a4 a1 a2).mono ?_; rintro e w' ⟨rfl, hb'⟩))
        try rw [HU.out]
        go_wp2_with fail
        refine bodyPost_ret (v := .tuple #[.int .i64 (x / (p : Int)), .bool (x % (p : Int) == 0), .int .i64 0]) ?_ rfl ⟨rfl, bel⟩
        simp [results, Tryz.results96, go_sem, hval, T2.out]
  · have HF := Lib.hid (atRes_arg (n := n) (s := s) hsc)
    rw [HF.out]
    have h12 : sc < 0 ∨ (¬ sc < 0 ∧ 6 < sc) := by omega
    clear hsc
    rcases h12 with h1 | ⟨h1, h2⟩
    all_goals
      go_enter Tryz.func96, Tryz.ntmps96
      go_wp2_with fail
      go_ret3
      exact ⟨rfl, bel⟩
end Go.Proofs.YtankkadnhdfpfaaGreatDoor

/- soffitref01.At, walked. -/
set_option linter.unusedSimpArgs false
set_option linter.unusedVariables false
namespace Go.Proofs.YtankkadnhdfpfaaGreatDoor
open Go.RowKit

theorem div_pow_step (n : Int) (k : Nat) : n / 10 ^ k / 10 = n / 10 ^ (k + 1) := by
  rw [Int.pow_succ, Int.ediv_ediv_of_nonneg (Int.le_of_lt (Int.pow_pos (by decide)))]
theorem mod_pow_step (n : Int) (k : Nat) : (n % 10 ^ (k + 1) == 0) = ((n % 10 ^ k == 0) && (n / 10 ^ k % 10 == 0)) := by
  have hp : (0 : Int) < 10 ^ k := Int.pow_pos (by decide)
  have h1 := Int.mul_ediv_add_emod n (10 ^ k)
  have h2 := Int.mul_ediv_add_emod (n / 10 ^ k) 10
  have h3 := Int.emod_nonneg n (show (10 : Int) ^ k ≠ 0 by omega)
  have h4 := Int.emod_lt_of_pos n hp
  rw [Bool.eq_iff_iff, Bool.and_eq_true, beq_iff_eq, beq_iff_eq, beq_iff_eq]
  constructor
  · intro h
    have hd : (10 : Int) ^ k * 10 ∣ n := by rw [← Int.pow_succ]; exact Int.dvd_of_emod_eq_zero h
    have hk : (10 : Int) ^ k ∣ n := Int.dvd_trans (Int.dvd_mul_right _ _) hd
    refine ⟨Int.emod_eq_zero_of_dvd hk, ?_⟩
    obtain ⟨m, rfl⟩ := hd
    rw [Int.mul_assoc, Int.mul_ediv_cancel_left _ (by omega)]
    exact Int.mul_emod_right 10 m
  · rintro ⟨ha, hb⟩
    rw [ha] at h1
    rw [hb] at h2
    refine Int.emod_eq_zero_of_dvd ⟨n / 10 ^ k / 10, ?_⟩
    rw [Int.pow_succ, Int.mul_assoc]
    have : (10 : Int) * (n / 10 ^ k / 10) = n / 10 ^ k := by omega
    rw [this]; omega
theorem pow6 {k : Nat} (h : k ≤ 6) : (10 : Int) ^ k ≤ 1000000 ∧ 1 ≤ (10 : Int) ^ k := by
  have h7 : k = 0 ∨ k = 1 ∨ k = 2 ∨ k = 3 ∨ k = 4 ∨ k = 5 ∨ k = 6 := by omega
  rcases h7 with rfl | rfl | rfl | rfl | rfl | rfl | rfl <;> decide

theorem div_bd {m q B : Int} (h1 : -B ≤ m) (h2 : m ≤ B) (hq : 1 ≤ q) (hB : 0 ≤ B) : -B ≤ m / q ∧ m / q ≤ B := by
  have ha := Int.mul_ediv_add_emod m q
  have hb := Int.emod_nonneg m (show q ≠ 0 by omega)
  have hc := Int.emod_lt_of_pos m (show 0 < q by omega)
  generalize m / q = x at *
  generalize m % q = r at *
  constructor
  · rcases Int.lt_or_le x (-B) with h | h
    · have h3 : q * x ≤ q * (-B - 1) := Int.mul_le_mul_of_nonneg_left (by omega) (by omega)
      have h4 : 1 * B ≤ q * B := Int.mul_le_mul_of_nonneg_right hq hB
      rw [Int.mul_sub, Int.mul_neg, Int.mul_one] at h3
      omega
    · exact h
  · rcases Int.lt_or_le B x with h | h
    · have h3 : q * (B + 1) ≤ q * x := Int.mul_le_mul_of_nonneg_left (by omega) (by omega)
      have h4 : 1 * B ≤ q * B := Int.mul_le_mul_of_nonneg_right hq hB
      rw [Int.mul_add, Int.mul_one] at h3
      omega
    · exact h
theorem mul_bd {n q : Int} (h1 : -999999999999 ≤ n) (h2 : n ≤ 999999999999) (hq : 1 ≤ q) (hq2 : q ≤ 1000000) : -999999999999000000 ≤ n * q ∧ n * q ≤ 999999999999000000 := by
  constructor
  · have : -999999999999 * q ≤ n * q := Int.mul_le_mul_of_nonneg_right h1 (by omega)
    omega
  · have : n * q ≤ 999999999999 * q := Int.mul_le_mul_of_nonneg_right h2 (by omega)
    omega
theorem at_two {n : Int} {p t : Nat} (hp : p ≤ 6) (ht : t ≤ 6) : atI n (p : Int) (t : Int) = n * 10 ^ (t - p) / 10 ^ (p - t) ∧ atE n (p : Int) (t : Int) = (n * 10 ^ (t - p) % 10 ^ (p - t) == 0) := by
  by_cases h : p ≤ t
  · obtain ⟨h1, h2⟩ := at_up (n := n) (s := (p : Int)) (sc := (t : Int)) (by omega) (by omega) (by omega)
    rw [h1, h2, show p - t = 0 by omega]
    simp
  · obtain ⟨h1, h2⟩ := at_down (n := n) (s := (p : Int)) (sc := (t : Int)) (by omega) (by omega) (by omega)
    rw [h1, h2, show t - p = 0 by omega]
    simp

set_option maxRecDepth 100000 in
set_option maxHeartbeats 3200000 in
theorem refAt_any (n s sc : Int) (w : World) (hn : I64 n) (hs : I64 s) :
    Calls Tryz.prog 66 #[.agg #[.int .i64 n, .int .i64 s], .int .i64 sc] w fun e w' => e = .returned (atRes n s sc) ∧ Below w.heap.size w w' := by
  by_cases hsc : 0 ≤ sc ∧ sc ≤ 6
  · cases hd : decSnd n s
    · have HF := Lib.hid (atRes_form hsc hd)
      have HD := Lib.hid hd
      have h1 : ¬ sc < 0 := by omega
      have h2 : ¬ 6 < sc := by omega
      clear hd
      rw [HF.out]
      go_enter Tryz.func66, Tryz.ntmps66
      go_wp2_with fail
      refine (ref01Sound_any n s _).mono ?_
      rintro e w1 ⟨rfl, hb1⟩
      rw [HD.out]
      have hz1 := hb1.size
      try simp at hz1
      obtain ⟨q1_0, l1_0, r1_0⟩ := aft hb1 (w.heap.size)
      go_wp2_with fail
      go_ret3
      exact ⟨rfl, bel⟩
    · obtain ⟨a1, a2, a3, a4, -⟩ := decSnd_of hd
      have HF := Lib.hid (atRes_yes hsc hd)
      have HD := Lib.hid hd
      have h1 : ¬ sc < 0 := by omega
      have h2 : ¬ 6 < sc := by omega
      clear hd
      obtain ⟨t, rfl⟩ : ∃ t : Nat, sc = (t : Int) := ⟨sc.toNat, by omega⟩
      obtain ⟨p, rfl⟩ : ∃ p : Nat, s = (p : Int) := ⟨s.toNat, by omega⟩
      rw [HF.out]
      go_enter Tryz.func66, Tryz.ntmps66
      go_wp2_with fail
      refine (ref01Sound_any n p _).mono ?_
      rintro e w1 ⟨rfl, hb1⟩
      rw [HD.out]
      have hz1 := hb1.size
      try simp at hz1
      obtain ⟨q1_0, l1_0, r1_0⟩ := aft hb1 (w.heap.size)
      have hbw : Below w.heap.size w w1 := bel
      go_wp2_with fail
      go_loopg [7, 8] (t - p) (fun k nv kv wr => ∃ j : Nat, j ≤ t - p ∧ t - p - j ≤ k ∧ kv = .int .i64 ((p + j : Nat) : Int) ∧ nv = .int .i64 (n * 10 ^ j) ∧ w1 = wr)
      case atStart => exact ⟨0, by omega, by omega, rfl, by simp, rfl⟩
      case round =>
        obtain ⟨j, hj, hjk, rfl, rfl, rfl⟩ := hrel
        by_cases hlt : p + j < t
        · have i1 : ((p + j : Nat) : Int) < (t : Int) := by omega
          have hpw := pow6 (show j ≤ 6 by omega)
          have hpw1 := pow6 (show j + 1 ≤ 6 by omega)
          have hbd : -999999999999000000 ≤ n * 10 ^ j * 10 ∧ n * 10 ^ j * 10 ≤ 999999999999000000 := by
            rw [Int.mul_assoc, ← Int.pow_succ]
            generalize (10 : Int) ^ (j + 1) = q at *
            constructor
            · have : -999999999999 * q ≤ n * q := Int.mul_le_mul_of_nonneg_right a3 (by omega)
              omega
            · have : n * q ≤ 999999999999 * q := Int.mul_le_mul_of_nonneg_right a4 (by omega)
              omega
          have hwr : IntKind.i64.wrap (n * 10 ^ j * 10) = n * 10 ^ j * 10 := IntWalk.i64_in _ (by omega)
          have hst : n * 10 ^ j * 10 = n * 10 ^ (j + 1) := by rw [Int.mul_assoc, ← Int.pow_succ]
          have HST := Lib.hid hst
          clear hpw hpw1 hbd hst
          generalize n * 10 ^ j = m at *
          go_wp2_with fail
          go_roundg (gk - 1)
          case measure => omega
          case rel => exact ⟨j + 1, by omega, by omega, by go_num, by rw [← HST.out]; try first | rfl | rw [hwr], rfl⟩
        · have i1 : ¬ ((p + j : Nat) : Int) < (t : Int) := by omega
          have hjt : j = t - p := by omega
          subst hjt
          obtain ⟨m, hm⟩ : ∃ m, n * 10 ^ (t - p) = m := ⟨_, rfl⟩
          rw [hm]
          have HM := Lib.hid hm
          clear hm
          go_wp2_with fail
          go_loopg [7, 9, 10, 11] (p - t) (fun k nv ev kv rv wr => ∃ j : Nat, j ≤ p - t ∧ p - t - j ≤ k ∧ kv = .int .i64 ((t + j : Nat) : Int) ∧ nv = .int .i64 (m / 10 ^ j) ∧ ev = .bool (m % 10 ^ j == 0) ∧ w1 = wr)
          case atStart => exact ⟨0, by omega, by omega, rfl, by simp, by simp, rfl⟩
          case round =>
            obtain ⟨j, hj, hjk, rfl, rfl, rfl, rfl⟩ := hrel
            have hmb : -999999999999000000 ≤ m ∧ m ≤ 999999999999000000 := by
              rw [← HM.out]
              have := pow6 (show t - p ≤ 6 by omega)
              exact mul_bd a3 a4 this.2 this.1
            by_cases hlt2 : t + j < p
            · have i2 : ((t + j : Nat) : Int) < (p : Int) := by omega
              have hdb := div_bd hmb.1 hmb.2 (pow6 (show j ≤ 6 by omega)).2 (by decide)
              have hs1 := div_pow_step m j
              have hs2 := mod_pow_step m j
              generalize m / 10 ^ j = x at *
              have h5 := Int.tmod_lt_of_pos x (show (0 : Int) < 10 by decide)
              have h6 := Int.tmod_lt_of_pos (-x) (show (0 : Int) < 10 by decide)
              rw [Int.neg_tmod] at h6
              obtain ⟨f1, f2⟩ := tdiv_floor (x := x) (show (0 : Int) < 10 by decide)
              have hq1 : -1000000000000000000 ≤ x / 10 ∧ x / 10 ≤ 1000000000000000000 := by omega
              rw [hs1] at f1 hq1
              rw [← f2] at hs2
              obtain ⟨y, hy⟩ : ∃ y, m / 10 ^ (j + 1) = y := ⟨_, rfl⟩
              obtain ⟨E', hE'⟩ : ∃ E', (m % 10 ^ (j + 1) == 0) = E' := ⟨_, rfl⟩
              rw [hy] at f1 hq1
              rw [hE'] at hs2
              have HY := Lib.hid hy
              have HYE := Lib.hid hE'
              clear hy hE'
              generalize (m % 10 ^ j == 0) = E at *
              obtain ⟨r, hr⟩ : ∃ r, x.tmod 10 = r := ⟨_, rfl⟩
              obtain ⟨q, hq⟩ : ∃ q, x.tdiv 10 = q := ⟨_, rfl⟩
              rw [hr] at f1 f2 hs2 h5 h6
              rw [hq] at f1
              have hqb : -1000000000000000002 ≤ q ∧ q ≤ 1000000000000000002 := by split at f1 <;> omega
              have g1 : IntKind.i64.wrap q = q := IntWalk.i64_in _ (by omega)
              have g2 : IntKind.i64.wrap r = r := IntWalk.i64_in _ (by omega)
              have HX1 := Lib.hid hr
              have HX2 := Lib.hid hq
              have HS2 := Lib.hid hs2
              have hsub : IntKind.i64.wrap (q - 1) = q - 1 := IntWalk.i64_in _ (by omega)
              clear hs1 hs2 f2 hdb hmb
              rcases Int.lt_trichotomy r 0 with h0 | h0 | h0
              · rw [if_pos h0] at f1
                have F1 := Lib.hid f1
                have e1 : (r != 0) = true := by rw [bne_iff_ne]; omega
                have HE : Hid (E' = false) := by show E' = _; rw [HS2.out, show (r == 0) = false by rw [beq_eq_false_iff_ne]; omega, Bool.and_false]
                clear f1
                go_wp2_with fail
                go_roundg (gk - 1)
                case measure => omega
                case rel => exact ⟨j + 1, by omega, by omega, by go_num, by rw [HY.out, ← F1.out], by rw [HYE.out, HE.out], rfl⟩
              · subst h0
                rw [if_neg (by decide)] at f1
                have F1 := Lib.hid f1
                have HE : Hid (E' = E) := by show E' = _; rw [HS2.out]; simp
                clear f1
                go_wp2_with fail
                go_roundg (gk - 1)
                case measure => omega
                case rel => exact ⟨j + 1, by omega, by omega, by go_num, by rw [HY.out, ← F1.out], by rw [HYE.out, HE.out], rfl⟩
              · rw [if_neg (by omega)] at f1
                have F1 := Lib.hid f1
                have e1 : (r != 0) = true := by rw [bne_iff_ne]; omega
                have e2 : ¬ r < 0 := by omega
                have HE : Hid (E' = false) := by show E' = _; rw [HS2.out, show (r == 0) = false by rw [beq_eq_false_iff_ne]; omega, Bool.and_false]
                clear f1
                go_wp2_with fail
                go_roundg (gk - 1)
                case measure => omega
                case rel => exact ⟨j + 1, by omega, by omega, by go_num, by rw [HY.out, ← F1.out], by rw [HYE.out, HE.out], rfl⟩
            · have i2 : ¬ ((t + j : Nat) : Int) < (p : Int) := by omega
              have hjp : j = p - t := by omega
              subst hjp
              obtain ⟨k1, k2⟩ := at_two (n := n) (show p ≤ 6 by omega) (show t ≤ 6 by omega)
              rw [HM.out] at k1 k2
              have K1 := Lib.hid k1
              have K2 := Lib.hid k2
              generalize m / 10 ^ (p - t) = y at *
              generalize (m % 10 ^ (p - t) == 0) = E at *
              clear k1 k2
              go_wp2_with fail
              refine bodyPost_ret (v := .tuple #[.int .i64 y, .bool E, .int .i64 0]) (by simp [results, Tryz.results66, go_sem]) rfl ⟨by rw [K1.out, K2.out], bel⟩
  · have HF := Lib.hid (atRes_arg (n := n) (s := s) hsc)
    rw [HF.out]
    have h12 : sc < 0 ∨ (¬ sc < 0 ∧ 6 < sc) := by omega
    clear hsc
    rcases h12 with h1 | ⟨h1, h2⟩
    all_goals
      go_enter Tryz.func66, Tryz.ntmps66
      go_wp2_with fail
      go_ret3
      exact ⟨rfl, bel⟩
end Go.Proofs.YtankkadnhdfpfaaGreatDoor
