import Derived.Test.YthicilfhnakhmaaGreatDoorPk02
import Derived.Test.YthicilfhnakhmaaGreatDoorPk01
/- soffit/value.Sound, walked. -/
set_option linter.unusedSimpArgs false
set_option linter.unusedVariables false
namespace Go.Proofs.YthicilfhnakhmaaGreatDoor
open Go.RowKit

set_option maxRecDepth 100000 in
set_option maxHeartbeats 800000 in
theorem vSound0 (v : Vl) (w : World) (hv : v.wf) (hE : Env w) (hk : v.k = 0) :
    Calls Tryz.prog 13 #[.agg #[.int .i64 v.k, .int .i64 v.n, .int .i64 v.s, .string v.t, .int .i64 v.i]] w fun e w' =>
      e = .returned (.bool (sndB v)) ∧ Below w.heap.size w w' := by
  obtain ⟨k, n, s, t, i⟩ := v
  simp only at hk
  subst hk
  obtain ⟨B, hB⟩ : ∃ B, sndB ⟨0, n, s, t, i⟩ = B := ⟨_, rfl⟩
  rw [hB]
  have HS : Hid (B = decide (n = 0 ∧ s = 0 ∧ t.toList = [] ∧ i = 0)) := hB.symm
  clear hB
  go_enter Tryz.func13, Tryz.ntmps13
  go_wp2_with fail
  all_goals go_ret
  all_goals exact ⟨ret_bool (by first | (rw [HS.out]; done) | (rw [HS.out]; simp [*]; done) | (rw [HS.out]; simp; omega) | (rw [HS.out]; simp [*]; omega) | (rw [HS.out]; simp only [List.isEmpty_iff, List.isEmpty_eq_false_iff] at *; simp [*]; done) | (rw [HS.out]; simp only [List.isEmpty_iff, List.isEmpty_eq_false_iff] at *; simp [*]; omega) | (rw [HS.out, Bool.eq_iff_iff]; simp only [List.isEmpty_iff, List.isEmpty_eq_false_iff] at *; simp [*]; done) | (exfalso; omega)), bel⟩

set_option maxRecDepth 100000 in
set_option maxHeartbeats 800000 in
theorem vSound1 (v : Vl) (w : World) (hv : v.wf) (hE : Env w) (hk : v.k = 1) :
    Calls Tryz.prog 13 #[.agg #[.int .i64 v.k, .int .i64 v.n, .int .i64 v.s, .string v.t, .int .i64 v.i]] w fun e w' =>
      e = .returned (.bool (sndB v)) ∧ Below w.heap.size w w' := by
  obtain ⟨k, n, s, t, i⟩ := v
  simp only at hk
  subst hk
  have hn := hv.n
  have hs := hv.s
  clear hv
  simp only [I64] at hn hs
  obtain ⟨hn1, hn2⟩ := hn
  obtain ⟨hs1, hs2⟩ := hs
  obtain ⟨B, hB⟩ : ∃ B, sndB ⟨1, n, s, t, i⟩ = B := ⟨_, rfl⟩
  rw [hB]
  have HS : Hid (B = (decide (t.toList = [] ∧ i = 0) && decSnd n s)) := hB.symm
  clear hB
  by_cases ht : t.toList = [] ∧ i = 0
  · obtain ⟨ht, rfl⟩ := ht
    have HT : Hid (B = decSnd n s) := by show B = _; rw [HS.out]; simp [ht]
    go_enter Tryz.func13, Tryz.ntmps13
    go_wp2_with fail
    refine (decSound_any n s _ hn1 hn2 hs1 hs2).mono ?_
    rintro e w1 ⟨rfl, hb1⟩
    rw [← HT.out]
    go_wp2_with fail
    all_goals go_ret
    all_goals exact ⟨ret_bool (by first | rfl | (simp [*]; done) | (exfalso; omega)), bel⟩
  · have HT : Hid (B = false) := by show B = _; rw [HS.out]; simp only [ht]; rfl
    go_enter Tryz.func13, Tryz.ntmps13
    go_wp2_with fail
    all_goals try (refine (decSound_any n s _ hn1 hn2 hs1 hs2).mono ?_; exfalso; simp_all; done)
    all_goals go_ret
    all_goals exact ⟨ret_bool (by first | (rw [HT.out]; done) | (rw [HT.out]; simp [*]; done) | (rw [HT.out]; simp; omega) | (rw [HT.out]; simp [*]; omega) | (rw [HT.out]; simp only [List.isEmpty_iff, List.isEmpty_eq_false_iff] at *; simp [*]; done) | (rw [HT.out]; simp only [List.isEmpty_iff, List.isEmpty_eq_false_iff] at *; simp [*]; omega) | (rw [HT.out, Bool.eq_iff_iff]; simp only [List.isEmpty_iff, List.isEmpty_eq_false_iff] at *; simp [*]; done) | (exfalso; omega)), bel⟩

set_option maxRecDepth 100000 in
set_option maxHeartbeats 800000 in
theorem vSound2 (v : Vl) (w : World) (hv : v.wf) (hE : Env w) (hk : v.k = 2) :
    Calls Tryz.prog 13 #[.agg #[.int .i64 v.k, .int .i64 v.n, .int .i64 v.s, .string v.t, .int .i64 v.i]] w fun e w' =>
      e = .returned (.bool (sndB v)) ∧ Below w.heap.size w w' := by
  obtain ⟨k, n, s, t, i⟩ := v
  simp only at hk
  subst hk
  have ht := hv.t
  simp only at ht
  clear hv
  obtain ⟨B, hB⟩ : ∃ B, sndB ⟨2, n, s, t, i⟩ = B := ⟨_, rfl⟩
  rw [hB]
  have HS : Hid (B = (decide (n = 0 ∧ s = 0 ∧ i = 0 ∧ t.size ≤ 256) && goodB t)) := hB.symm
  clear hB
  by_cases h0 : n = 0 ∧ s = 0 ∧ i = 0 ∧ t.size ≤ 256
  · obtain ⟨rfl, rfl, rfl, hz⟩ := h0
    have HT : Hid (B = goodB t) := by show B = _; rw [HS.out]; simp [hz]
    go_enter Tryz.func13, Tryz.ntmps13
    go_wp2_with fail
    refine (good_any t _ ht (hE.below bel)).mono ?_
    rintro e w1 ⟨rfl, hb1⟩
    rw [← HT.out]
    go_wp2_with fail
    all_goals go_ret
    all_goals exact ⟨ret_bool (by first | rfl | (simp [*]; done) | (exfalso; omega)), bel⟩
  · have HT : Hid (B = false) := by show B = _; rw [HS.out]; simp only [h0]; rfl
    clear HS
    go_enter Tryz.func13, Tryz.ntmps13
    go_wp2_with fail
    all_goals go_ret
    all_goals exact ⟨ret_bool (by first | (rw [HT.out]; done) | (rw [HT.out]; simp [*]; done) | (rw [HT.out]; simp; omega) | (rw [HT.out]; simp [*]; omega) | (rw [HT.out]; simp only [List.isEmpty_iff, List.isEmpty_eq_false_iff] at *; simp [*]; done) | (rw [HT.out]; simp only [List.isEmpty_iff, List.isEmpty_eq_false_iff] at *; simp [*]; omega) | (rw [HT.out, Bool.eq_iff_iff]; simp only [List.isEmpty_iff, List.isEmpty_eq_false_iff] at *; simp [*]; done) | (exfalso; omega)), bel⟩

set_option maxRecDepth 100000 in
set_option maxHeartbeats 800000 in
theorem vSound3 (v : Vl) (w : World) (hv : v.wf) (hE : Env w) (hk : v.k = 3) :
    Calls Tryz.prog 13 #[.agg #[.int .i64 v.k, .int .i64 v.n, .int .i64 v.s, .string v.t, .int .i64 v.i]] w fun e w' =>
      e = .returned (.bool (sndB v)) ∧ Below w.heap.size w w' := by
  obtain ⟨k, n, s, t, i⟩ := v
  simp only at hk
  subst hk
  obtain ⟨B, hB⟩ : ∃ B, sndB ⟨3, n, s, t, i⟩ = B := ⟨_, rfl⟩
  rw [hB]
  have HS : Hid (B = decide (n = 0 ∧ s = 0 ∧ t.toList = [] ∧ (i = 0 ∨ i = 1))) := hB.symm
  clear hB
  have hand := i64_and1 i
  by_cases h0 : i = 0
  · subst h0
    clear hand
    have hand : bits .and .i64 0 1 = 0 := i64_and1 0
    have HT : Hid (B = decide (n = 0 ∧ s = 0 ∧ t.toList = [])) := by show B = _; rw [HS.out]; simp
    clear HS
    go_enter Tryz.func13, Tryz.ntmps13
    go_wp2_with fail
    all_goals go_ret
    all_goals exact ⟨ret_bool (by first | (rw [HT.out]; done) | (rw [HT.out]; simp [*]; done) | (rw [HT.out]; simp; omega) | (rw [HT.out]; simp [*]; omega) | (rw [HT.out]; simp only [List.isEmpty_iff, List.isEmpty_eq_false_iff] at *; simp [*]; done) | (rw [HT.out]; simp only [List.isEmpty_iff, List.isEmpty_eq_false_iff] at *; simp [*]; omega) | (rw [HT.out, Bool.eq_iff_iff]; simp only [List.isEmpty_iff, List.isEmpty_eq_false_iff] at *; simp [*]; done) | (exfalso; omega)), bel⟩
  · by_cases h1 : i = 1
    · subst h1
      clear hand
      have hand : bits .and .i64 1 1 = 1 := i64_and1 1
      have HT : Hid (B = decide (n = 0 ∧ s = 0 ∧ t.toList = [])) := by show B = _; rw [HS.out]; simp
      clear HS
      go_enter Tryz.func13, Tryz.ntmps13
      go_wp2_with fail
      all_goals go_ret
      all_goals exact ⟨ret_bool (by first | (rw [HT.out]; done) | (rw [HT.out]; simp [*]; done) | (rw [HT.out]; simp; omega) | (rw [HT.out]; simp [*]; omega) | (rw [HT.out]; simp only [List.isEmpty_iff, List.isEmpty_eq_false_iff] at *; simp [*]; done) | (rw [HT.out]; simp only [List.isEmpty_iff, List.isEmpty_eq_false_iff] at *; simp [*]; omega) | (rw [HT.out, Bool.eq_iff_iff]; simp only [List.isEmpty_iff, List.isEmpty_eq_false_iff] at *; simp [*]; done) | (exfalso; omega)), bel⟩
    · have hne : ¬ (i = i % 2) := by omega
      have HT : Hid (B = false) := by show B = _; rw [HS.out]; simp [h0, h1]
      clear HS h0 h1
      go_enter Tryz.func13, Tryz.ntmps13
      go_wp2_with fail
      all_goals go_ret
      all_goals exact ⟨ret_bool (by first | (rw [HT.out]; done) | (rw [HT.out]; simp [*]; done) | (rw [HT.out]; simp; omega) | (rw [HT.out]; simp [*]; omega) | (rw [HT.out]; simp only [List.isEmpty_iff, List.isEmpty_eq_false_iff] at *; simp [*]; done) | (rw [HT.out]; simp only [List.isEmpty_iff, List.isEmpty_eq_false_iff] at *; simp [*]; omega) | (rw [HT.out, Bool.eq_iff_iff]; simp only [List.isEmpty_iff, List.isEmpty_eq_false_iff] at *; simp [*]; done) | (exfalso; omega)), bel⟩

set_option maxRecDepth 100000 in
set_option maxHeartbeats 800000 in
theorem vSound4 (v : Vl) (w : World) (hv : v.wf) (hE : Env w) (hk : v.k = 4) :
    Calls Tryz.prog 13 #[.agg #[.int .i64 v.k, .int .i64 v.n, .int .i64 v.s, .string v.t, .int .i64 v.i]] w fun e w' =>
      e = .returned (.bool (sndB v)) ∧ Below w.heap.size w w' := by
  obtain ⟨k, n, s, t, i⟩ := v
  simp only at hk
  subst hk
  obtain ⟨B, hB⟩ : ∃ B, sndB ⟨4, n, s, t, i⟩ = B := ⟨_, rfl⟩
  rw [hB]
  have HS : Hid (B = decide (n = 0 ∧ s = 0 ∧ t.toList = [] ∧ 0 ≤ i ∧ i ≤ 3652058)) := hB.symm
  clear hB
  by_cases h0 : i < 0
  · have HT : Hid (B = false) := by
      show B = _; rw [HS.out]; rw [decide_eq_false_iff_not]; omega
    clear HS
    go_enter Tryz.func13, Tryz.ntmps13
    go_wp2_with fail
    all_goals go_ret
    all_goals exact ⟨ret_bool (by first | (rw [HT.out]; done) | (rw [HT.out]; simp [*]; done) | (rw [HT.out]; simp; omega) | (rw [HT.out]; simp [*]; omega) | (rw [HT.out]; simp only [List.isEmpty_iff, List.isEmpty_eq_false_iff] at *; simp [*]; done) | (rw [HT.out]; simp only [List.isEmpty_iff, List.isEmpty_eq_false_iff] at *; simp [*]; omega) | (rw [HT.out, Bool.eq_iff_iff]; simp only [List.isEmpty_iff, List.isEmpty_eq_false_iff] at *; simp [*]; done) | (exfalso; omega)), bel⟩
  · by_cases h1 : 3652058 < i
    · have HT : Hid (B = false) := by
        show B = _; rw [HS.out]; rw [decide_eq_false_iff_not]; omega
      clear HS
      go_enter Tryz.func13, Tryz.ntmps13
      go_wp2_with fail
      all_goals go_ret
      all_goals exact ⟨ret_bool (by first | (rw [HT.out]; done) | (rw [HT.out]; simp [*]; done) | (rw [HT.out]; simp; omega) | (rw [HT.out]; simp [*]; omega) | (rw [HT.out]; simp only [List.isEmpty_iff, List.isEmpty_eq_false_iff] at *; simp [*]; done) | (rw [HT.out]; simp only [List.isEmpty_iff, List.isEmpty_eq_false_iff] at *; simp [*]; omega) | (rw [HT.out, Bool.eq_iff_iff]; simp only [List.isEmpty_iff, List.isEmpty_eq_false_iff] at *; simp [*]; done) | (exfalso; omega)), bel⟩
    · have h2 : 0 ≤ i := by omega
      have h3 : i ≤ 3652058 := by omega
      have HT : Hid (B = decide (n = 0 ∧ s = 0 ∧ t.toList = [])) := by show B = _; rw [HS.out, decide_eq_decide]; simp [h2, h3]
      clear HS h0 h1
      go_enter Tryz.func13, Tryz.ntmps13
      go_wp2_with fail
      go_ways
      all_goals go_ret
      all_goals exact ⟨ret_bool (by first | (rw [HT.out]; done) | (rw [HT.out]; simp [*]; done) | (rw [HT.out]; simp; omega) | (rw [HT.out]; simp [*]; omega) | (rw [HT.out]; simp only [List.isEmpty_iff, List.isEmpty_eq_false_iff] at *; simp [*]; done) | (rw [HT.out]; simp only [List.isEmpty_iff, List.isEmpty_eq_false_iff] at *; simp [*]; omega) | (rw [HT.out, Bool.eq_iff_iff]; simp only [List.isEmpty_iff, List.isEmpty_eq_false_iff] at *; simp [*]; done) | (exfalso; omega)), bel⟩

set_option maxHeartbeats 800000 in
theorem vSound5 (v : Vl) (w : World) (hv : v.wf) (hE : Env w) (h0 : ¬ v.k = 0) (h1 : ¬ v.k = 1) (h2 : ¬ v.k = 2) (h3 : ¬ v.k = 3) (h4 : ¬ v.k = 4) :
    Calls Tryz.prog 13 #[.agg #[.int .i64 v.k, .int .i64 v.n, .int .i64 v.s, .string v.t, .int .i64 v.i]] w fun e w' =>
      e = .returned (.bool (sndB v)) ∧ Below w.heap.size w w' := by
  obtain ⟨k, n, s, t, i⟩ := v
  simp only at h0 h1 h2 h3 h4
  have e0 : (k == 0) = false := by simp [h0]
  have e1 : (k == 1) = false := by simp [h1]
  have e2 : (k == 2) = false := by simp [h2]
  have e3 : (k == 3) = false := by simp [h3]
  have e4 : (k == 4) = false := by simp [h4]
  obtain ⟨B, hB⟩ : ∃ B, sndB ⟨k, n, s, t, i⟩ = B := ⟨_, rfl⟩
  rw [hB]
  have HS : Hid (B = false) := by show B = _; rw [← hB]; simp only [sndB, h0, h1, h2, h3, h4, if_false]
  clear hB
  clear h0 h1 h2 h3 h4
  go_enter Tryz.func13, Tryz.ntmps13
  go_wp2_with fail
  all_goals go_ret
  all_goals exact ⟨ret_bool (by first | (rw [HS.out]; done) | (rw [HS.out]; simp [*]; done) | (rw [HS.out]; simp; omega) | (rw [HS.out]; simp [*]; omega) | (rw [HS.out]; simp only [List.isEmpty_iff, List.isEmpty_eq_false_iff] at *; simp [*]; done) | (rw [HS.out]; simp only [List.isEmpty_iff, List.isEmpty_eq_false_iff] at *; simp [*]; omega) | (rw [HS.out, Bool.eq_iff_iff]; simp only [List.isEmpty_iff, List.isEmpty_eq_false_iff] at *; simp [*]; done) | (exfalso; omega)), bel⟩

theorem vSound_any (v : Vl) (w : World) (hv : v.wf) (hE : Env w) :
    Calls Tryz.prog 13 #[.agg #[.int .i64 v.k, .int .i64 v.n, .int .i64 v.s, .string v.t, .int .i64 v.i]] w fun e w' =>
      e = .returned (.bool (sndB v)) ∧ Below w.heap.size w w' := by
  by_cases h0 : v.k = 0
  · exact vSound0 v w hv hE h0
  by_cases h1 : v.k = 1
  · exact vSound1 v w hv hE h1
  by_cases h2 : v.k = 2
  · exact vSound2 v w hv hE h2
  by_cases h3 : v.k = 3
  · exact vSound3 v w hv hE h3
  by_cases h4 : v.k = 4
  · exact vSound4 v w hv hE h4
  exact vSound5 v w hv hE h0 h1 h2 h3 h4
end Go.Proofs.YthicilfhnakhmaaGreatDoor

/- Comparisons: cmp.Compare[string], cmp.Or[int], soffit/value.order. -/
set_option linter.unusedSimpArgs false
set_option linter.unusedVariables false
namespace Go.Proofs.YthicilfhnakhmaaGreatDoor
open Go.RowKit

/-- texts bytewise: -1, 0 or 1 -/
def cmpT (a b : ByteArray) : Int := if Op.bytesLess a.toList b.toList = true then -1 else if (a.toList == b.toList) = true then 0 else 1

set_option maxHeartbeats 400000 in
theorem isNaN_string (a : ByteArray) (w : World) : Calls Tryz.prog 64 #[.string a] w fun e w' => e = .returned (.bool false) ∧ w = w' := by
  go_enter Tryz.func64, Tryz.ntmps64
  go_wp2_with fail
  go_ret
  exact ⟨ret_bool (by simp), rfl⟩

set_option maxHeartbeats 400000 in
theorem cmpT_any (a b : ByteArray) (w : World) : Calls Tryz.prog 42 #[.string a, .string b] w fun e w' => e = .returned (.int .i64 (cmpT a b)) ∧ w = w' := by
  obtain ⟨C, hC⟩ : ∃ C, cmpT a b = C := ⟨_, rfl⟩
  rw [hC]
  have HC : Hid (C = if Op.bytesLess a.toList b.toList = true then -1 else if (a.toList == b.toList) = true then 0 else 1) := hC.symm
  clear hC
  go_enter Tryz.func42, Tryz.ntmps42
  go_wp2_with fail
  refine (isNaN_string a _).mono ?_
  rintro e w1 ⟨rfl, rfl⟩
  go_wp2_with fail
  refine (isNaN_string b _).mono ?_
  rintro e w1 ⟨rfl, rfl⟩
  go_wp2_with fail
  all_goals go_ret
  all_goals refine ⟨ret_int ?_, rfl⟩
  all_goals (rw [HC.out]; simp_all; done)

/-- the first of two numbers that is not 0 -/
def orI (x y : Int) : Int := if x = 0 then y else x
set_option maxHeartbeats 400000 in
/-- of two numbers the first that is not 0 -/
theorem or2_any (b : Nat) (x y : Int) (w : World) (hb : b < w.heap.size) (c0 : w.cell? ⟨b, 0, none⟩ = some (.int .i64 x)) (c1 : w.cell? ⟨b, 1, none⟩ = some (.int .i64 y)) :
    Calls Tryz.prog 41 #[.slice (some ⟨b, 0, none⟩) 2 2] w fun e w' => e = .returned (.int .i64 (orI x y)) ∧ w = w' := by
  obtain ⟨R, hR⟩ : ∃ R, orI x y = R := ⟨_, rfl⟩
  rw [hR]
  have HR : Hid (R = if x = 0 then y else x) := hR.symm
  clear hR
  go_enter Tryz.func41, Tryz.ntmps41
  go_wp2_with fail
  go_loopg [8] 2 (fun k i wr => ∃ j : Nat, j ≤ 2 ∧ 2 - j ≤ k ∧ (1 ≤ j → Hid (x = 0)) ∧ (2 ≤ j → Hid (y = 0)) ∧ i = .int .i64 j ∧ w = wr)
  case atStart => exact ⟨0, by omega, by omega, fun h => by omega, fun h => by omega, rfl, rfl⟩
  case round =>
    obtain ⟨j, hj, hjk, g1, g2, rfl, rfl⟩ := hrel
    have hj3 : j = 0 ∨ j = 1 ∨ j = 2 := by omega
    rcases hj3 with rfl | rfl | rfl
    · by_cases hx : x = 0
      · have HX := Lib.hid hx
        have e : (x != 0) = false := by simp [hx]
        clear hx
        go_wp2_with fail
        go_roundg (gk - 1)
        case measure => omega
        case rel => exact ⟨0 + 1, by omega, by omega, fun _ => HX, fun h => by omega, by go_num, rfl⟩
      · have HX := Lib.hid hx
        have e : (x != 0) = true := by simp [hx]
        clear hx
        go_wp2_with fail
        go_ret
        exact ⟨ret_int (by rw [HR.out, if_neg HX.out]), rfl⟩
    · have HX := g1 (by omega)
      by_cases hy : y = 0
      · have HY := Lib.hid hy
        have e : (y != 0) = false := by simp [hy]
        clear hy
        go_wp2_with fail
        go_roundg (gk - 1)
        case measure => omega
        case rel => exact ⟨1 + 1, by omega, by omega, fun _ => HX, fun _ => HY, by go_num, rfl⟩
      · have e : (y != 0) = true := by simp [hy]
        clear hy
        go_wp2_with fail
        go_ret
        exact ⟨ret_int (by rw [HR.out, if_pos HX.out]), rfl⟩
    · have HX := g1 (by omega)
      have HY := g2 (by omega)
      go_wp2_with fail
      go_ret
      exact ⟨ret_int (by rw [HR.out, if_pos HX.out, HY.out]), rfl⟩

/-- values in their order: -1, 0 or 1 -/
def cmpV (a b : Vl) : Int :=
  if a.k = b.k then (if a.k = 1 then cmpD a.n a.s b.n b.s else orI (cmpT a.t b.t) (cmpI a.i b.i)) else cmpI a.k b.k

theorem sndB_dec {v : Vl} (h : sndB v = true) (hk : v.k = 1) : decSnd v.n v.s = true := by
  unfold sndB at h
  rw [if_neg (by omega), if_pos hk] at h
  simp only [Bool.and_eq_true] at h
  exact h.2

set_option maxHeartbeats 1600000 in
theorem order_any (a b : Vl) (w : World) (ha : a.wf) (hb : b.wf) (sa : sndB a = true) (sb : sndB b = true) :
    Calls Tryz.prog 20 #[.agg #[.int .i64 a.k, .int .i64 a.n, .int .i64 a.s, .string a.t, .int .i64 a.i], .agg #[.int .i64 b.k, .int .i64 b.n, .int .i64 b.s, .string b.t, .int .i64 b.i]] w fun e w' =>
      e = .returned (.int .i64 (cmpV a b)) ∧ Below w.heap.size w w' := by
  obtain ⟨C, hC⟩ : ∃ C, cmpV a b = C := ⟨_, rfl⟩
  rw [hC]
  by_cases hk : a.k = b.k
  · have e1 : (a.k != b.k) = false := by simp [hk]
    by_cases h1 : a.k = 1
    · have HC : Hid (C = cmpD a.n a.s b.n b.s) := by rw [← hC]; unfold cmpV; rw [if_pos hk, if_pos h1]; exact rfl
      have HM := Lib.hid (cmpRes_yes (sndB_dec sa h1) (sndB_dec sb (by omega)))
      have I1 := ha.n
      have I2 := ha.s
      have I3 := hb.n
      have I4 := hb.s
      have e2 : (a.k == 1) = true := by simp [h1]
      clear hk h1 hC sa sb ha hb
      go_enter Tryz.func20, Tryz.ntmps20
      go_wp2_with fail
      refine (decCmp_any _ _ _ _ _ I1 I2 I3 I4).mono ?_
      rintro e w1 ⟨rfl, hb1⟩
      rw [HM.out]
      go_wp2_with fail
      go_ret
      exact ⟨ret_int HC.out.symm, bel⟩
    · have HC : Hid (C = orI (cmpT a.t b.t) (cmpI a.i b.i)) := by rw [← hC]; unfold cmpV; rw [if_pos hk, if_neg h1]; exact rfl
      have e2 : (a.k == 1) = false := by simp [h1]
      clear hk h1 hC sa sb ha hb
      go_enter Tryz.func20, Tryz.ntmps20
      go_wp2_with fail
      generalize hEW0 : (w.alloc _).alloc _ = W0
      have hbW0 : Below w.heap.size w W0 := (by rw [← hEW0]; exact bel)
      have lW0_0 : w.heap.size < W0.heap.size := lsz hEW0
      have qW0_0 : ∀ o, W0.cell? ⟨w.heap.size, o, none⟩ = _ := fun o => congrArg (fun W : World => W.cell? ⟨w.heap.size, o, none⟩) hEW0.symm
      have rW0_0 : ∀ o, W0.frozen? ⟨w.heap.size, o, none⟩ = _ := fun o => congrArg (fun W : World => W.frozen? ⟨w.heap.size, o, none⟩) hEW0.symm
      have lW0_1 : w.heap.size + 1 < W0.heap.size := lsz hEW0
      have qW0_1 : ∀ o, W0.cell? ⟨w.heap.size + 1, o, none⟩ = _ := fun o => congrArg (fun W : World => W.cell? ⟨w.heap.size + 1, o, none⟩) hEW0.symm
      have rW0_1 : ∀ o, W0.frozen? ⟨w.heap.size + 1, o, none⟩ = _ := fun o => congrArg (fun W : World => W.frozen? ⟨w.heap.size + 1, o, none⟩) hEW0.symm
      clear hEW0
      have kk0 : W0.cell? ⟨w.heap.size, 3, none⟩ = some (.string a.t) := cel
      have kk1 : W0.cell? ⟨w.heap.size, 4, none⟩ = some (.int .i64 a.i) := cel
      have kk2 : W0.cell? ⟨w.heap.size + 1, 3, none⟩ = some (.string b.t) := cel
      have kk3 : W0.cell? ⟨w.heap.size + 1, 4, none⟩ = some (.int .i64 b.i) := cel
      go_region_held3 (fun w' => Below W0.heap.size W0 w' ∧ w'.cell? ⟨w.heap.size, 3, none⟩ = some (.string a.t) ∧ w'.cell? ⟨w.heap.size, 4, none⟩ = some (.int .i64 a.i) ∧ w'.cell? ⟨w.heap.size + 1, 3, none⟩ = some (.string b.t) ∧ w'.cell? ⟨w.heap.size + 1, 4, none⟩ = some (.int .i64 b.i)) ((refine and_keep ?_ (fun hk => ⟨keep_cell hk lW0_0 kk0, keep_cell hk lW0_0 kk1, keep_cell hk lW0_1 kk2, keep_cell hk lW0_1 kk3⟩); exact bel))
        (first
          | (go_at_call 42; refine (cmpT_any _ _ _).mono ?_; rintro e w' ⟨rfl, rfl⟩)
          | (go_at_call 39; refine (Tryz.cmp_Compare_int _ _ _).mono ?_; rintro e w' ⟨rfl, rfl⟩)
          | (go_at_call 41; refine (or2_any _ (cmpT a.t b.t) (Lib.compareInt a.i b.i) _ (by first | omega | (simp only [sz_alloc, sz_set, sz_drew, sz_drewN, sz_iterAt, sz_iter] at *; omega) | (simp; done) | (simp; omega) | (simp at *; omega)) (by first | (simp [go_sem]; done) | (simp [go_sem, *]; done)) (by first | (simp [go_sem]; done) | (simp [go_sem, *]; done))).mono ?_; rintro e w' ⟨rfl, rfl⟩))
      rw [compareInt_eq]
      go_wp2_with fail
      go_ret
      exact ⟨ret_int HC.out.symm, bel⟩
  · have HC : Hid (C = cmpI a.k b.k) := by rw [← hC]; unfold cmpV; rw [if_neg hk]; exact rfl
    have e1 : (a.k != b.k) = true := by simp [hk]
    clear hk hC sa sb ha hb
    go_enter Tryz.func20, Tryz.ntmps20
    go_wp2_with fail
    refine (Tryz.cmp_Compare_int _ _ _).mono ?_
    rintro e w' ⟨rfl, rfl⟩
    rw [compareInt_eq]
    go_wp2_with fail
    go_ret
    exact ⟨ret_int HC.out.symm, bel⟩
/-- what Compare hands back -/
def cmpVRes (a b : Vl) : Value := if (sndB a && sndB b) = true then .tuple #[.int .i64 (cmpV a b), .int .i64 0] else .tuple #[.int .i64 0, .int .i64 2]
end Go.Proofs.YthicilfhnakhmaaGreatDoor
