/- soffit/value.Sound, walked. -/
import Derived.Test.YthicilfhnakhmaaGreatDoorVl
import Derived.Test.YthicilfhnakhmaaGreatDoorDeci3
import Derived.Test.YthicilfhnakhmaaGreatDoorChars
set_option linter.unusedSimpArgs false
set_option linter.unusedVariables false
namespace Go.Proofs.YthicilfhnakhmaaGreatDoor
open Go.RowKit

set_option maxRecDepth 100000 in
set_option maxHeartbeats 800000 in
theorem vSound0 (v : Vl) (w : World) (hv : v.wf) (hE : Env w) (hk : v.k = 0) :
    Calls Tryz.prog 13 #[.agg #[.int .i64 v.k, .int .i64 v.n, .int .i64 v.s, .string v.t, .int .i64 v.i]] w fun e w' =>
      e = .returned (.bool (sndB v)) ∧ Below w.heap.size w w' := by
  obtain ⟨k, n, s, t, i⟩ := v
  simp only at hk
  subst hk
  obtain ⟨B, hB⟩ : ∃ B, sndB ⟨0, n, s, t, i⟩ = B := ⟨_, rfl⟩
  rw [hB]
  have HS : Hid (B = decide (n = 0 ∧ s = 0 ∧ t.toList = [] ∧ i = 0)) := hB.symm
  clear hB
  go_enter Tryz.func13, Tryz.ntmps13
  go_wp2_with fail
  all_goals go_ret
  all_goals exact ⟨ret_bool (by first | (rw [HS.out]; done) | (rw [HS.out]; simp [*]; done) | (rw [HS.out]; simp; omega) | (rw [HS.out]; simp [*]; omega) | (rw [HS.out]; simp only [List.isEmpty_iff, List.isEmpty_eq_false_iff] at *; simp [*]; done) | (rw [HS.out]; simp only [List.isEmpty_iff, List.isEmpty_eq_false_iff] at *; simp [*]; omega) | (rw [HS.out, Bool.eq_iff_iff]; simp only [List.isEmpty_iff, List.isEmpty_eq_false_iff] at *; simp [*]; done) | (exfalso; omega)), (by repeat' (first | (with_reducible exact Below.refl _ _) | (with_reducible assumption) | (with_reducible refine Below.drew ?_) | (with_reducible refine below_drewN ?_ _) | (with_reducible refine below_iterAt ?_ ?_ _ _) | (with_reducible refine below_iter ?_ ?_ _ _) | (with_reducible refine Below.alloc ?_ ?_ _) | (with_reducible refine Below.setCell ?_ ?_ _) | (with_reducible refine Below.trans ?_ (Below.mono (by assumption) ?_)) | (simp only [sz_alloc, sz_set, sz_drew, sz_drewN, sz_iterAt, sz_iter] at *; omega) | omega | (simp; done) | (simp; omega) | (apply Below.size; assumption) | (simp only [sz_drew, sz_drewN]; apply Below.size; assumption) | (refine Nat.le_trans ?_ (Below.size (by assumption)))))⟩

set_option maxRecDepth 100000 in
set_option maxHeartbeats 800000 in
theorem vSound1 (v : Vl) (w : World) (hv : v.wf) (hE : Env w) (hk : v.k = 1) :
    Calls Tryz.prog 13 #[.agg #[.int .i64 v.k, .int .i64 v.n, .int .i64 v.s, .string v.t, .int .i64 v.i]] w fun e w' =>
      e = .returned (.bool (sndB v)) ∧ Below w.heap.size w w' := by
  obtain ⟨k, n, s, t, i⟩ := v
  simp only at hk
  subst hk
  have hn := hv.n
  have hs := hv.s
  clear hv
  simp only [I64] at hn hs
  obtain ⟨hn1, hn2⟩ := hn
  obtain ⟨hs1, hs2⟩ := hs
  obtain ⟨B, hB⟩ : ∃ B, sndB ⟨1, n, s, t, i⟩ = B := ⟨_, rfl⟩
  rw [hB]
  have HS : Hid (B = (decide (t.toList = [] ∧ i = 0) && decSnd n s)) := hB.symm
  clear hB
  by_cases ht : t.toList = [] ∧ i = 0
  · obtain ⟨ht, rfl⟩ := ht
    have HT : Hid (B = decSnd n s) := by show B = _; rw [HS.out]; simp [ht]
    go_enter Tryz.func13, Tryz.ntmps13
    go_wp2_with fail
    refine (decSound_any n s _ hn1 hn2 hs1 hs2).mono ?_
    rintro e w1 ⟨rfl, hb1⟩
    rw [← HT.out]
    go_wp2_with fail
    all_goals go_ret
    all_goals exact ⟨ret_bool (by first | rfl | (simp [*]; done) | (exfalso; omega)), (by repeat' (first | (with_reducible exact Below.refl _ _) | (with_reducible assumption) | (with_reducible refine Below.drew ?_) | (with_reducible refine below_drewN ?_ _) | (with_reducible refine below_iterAt ?_ ?_ _ _) | (with_reducible refine below_iter ?_ ?_ _ _) | (with_reducible refine Below.alloc ?_ ?_ _) | (with_reducible refine Below.setCell ?_ ?_ _) | (with_reducible refine Below.trans ?_ (Below.mono (by assumption) ?_)) | (simp only [sz_alloc, sz_set, sz_drew, sz_drewN, sz_iterAt, sz_iter] at *; omega) | omega | (simp; done) | (simp; omega) | (apply Below.size; assumption) | (simp only [sz_drew, sz_drewN]; apply Below.size; assumption) | (refine Nat.le_trans ?_ (Below.size (by assumption)))))⟩
  · have HT : Hid (B = false) := by show B = _; rw [HS.out]; simp only [ht]; rfl
    go_enter Tryz.func13, Tryz.ntmps13
    go_wp2_with fail
    all_goals try (refine (decSound_any n s _ hn1 hn2 hs1 hs2).mono ?_; exfalso; simp_all; done)
    all_goals go_ret
    all_goals exact ⟨ret_bool (by first | (rw [HT.out]; done) | (rw [HT.out]; simp [*]; done) | (rw [HT.out]; simp; omega) | (rw [HT.out]; simp [*]; omega) | (rw [HT.out]; simp only [List.isEmpty_iff, List.isEmpty_eq_false_iff] at *; simp [*]; done) | (rw [HT.out]; simp only [List.isEmpty_iff, List.isEmpty_eq_false_iff] at *; simp [*]; omega) | (rw [HT.out, Bool.eq_iff_iff]; simp only [List.isEmpty_iff, List.isEmpty_eq_false_iff] at *; simp [*]; done) | (exfalso; omega)), (by repeat' (first | (with_reducible exact Below.refl _ _) | (with_reducible assumption) | (with_reducible refine Below.drew ?_) | (with_reducible refine below_drewN ?_ _) | (with_reducible refine below_iterAt ?_ ?_ _ _) | (with_reducible refine below_iter ?_ ?_ _ _) | (with_reducible refine Below.alloc ?_ ?_ _) | (with_reducible refine Below.setCell ?_ ?_ _) | (with_reducible refine Below.trans ?_ (Below.mono (by assumption) ?_)) | (simp only [sz_alloc, sz_set, sz_drew, sz_drewN, sz_iterAt, sz_iter] at *; omega) | omega | (simp; done) | (simp; omega) | (apply Below.size; assumption) | (simp only [sz_drew, sz_drewN]; apply Below.size; assumption) | (refine Nat.le_trans ?_ (Below.size (by assumption)))))⟩

set_option maxRecDepth 100000 in
set_option maxHeartbeats 800000 in
theorem vSound2 (v : Vl) (w : World) (hv : v.wf) (hE : Env w) (hk : v.k = 2) :
    Calls Tryz.prog 13 #[.agg #[.int .i64 v.k, .int .i64 v.n, .int .i64 v.s, .string v.t, .int .i64 v.i]] w fun e w' =>
      e = .returned (.bool (sndB v)) ∧ Below w.heap.size w w' := by
  obtain ⟨k, n, s, t, i⟩ := v
  simp only at hk
  subst hk
  have ht := hv.t
  simp only at ht
  clear hv
  obtain ⟨B, hB⟩ : ∃ B, sndB ⟨2, n, s, t, i⟩ = B := ⟨_, rfl⟩
  rw [hB]
  have HS : Hid (B = (decide (n = 0 ∧ s = 0 ∧ i = 0 ∧ t.size ≤ 256) && goodB t)) := hB.symm
  clear hB
  by_cases h0 : n = 0 ∧ s = 0 ∧ i = 0 ∧ t.size ≤ 256
  · obtain ⟨rfl, rfl, rfl, hz⟩ := h0
    have HT : Hid (B = goodB t) := by show B = _; rw [HS.out]; simp [hz]
    go_enter Tryz.func13, Tryz.ntmps13
    go_wp2_with fail
    refine (good_any t _ ht (hE.below (by repeat' (first | (with_reducible exact Below.refl _ _) | (with_reducible assumption) | (with_reducible refine Below.drew ?_) | (with_reducible refine below_drewN ?_ _) | (with_reducible refine below_iterAt ?_ ?_ _ _) | (with_reducible refine below_iter ?_ ?_ _ _) | (with_reducible refine Below.alloc ?_ ?_ _) | (with_reducible refine Below.setCell ?_ ?_ _) | (with_reducible refine Below.trans ?_ (Below.mono (by assumption) ?_)) | (simp only [sz_alloc, sz_set, sz_drew, sz_drewN, sz_iterAt, sz_iter] at *; omega) | omega | (simp; done) | (simp; omega) | (apply Below.size; assumption) | (simp only [sz_drew, sz_drewN]; apply Below.size; assumption) | (refine Nat.le_trans ?_ (Below.size (by assumption))))))).mono ?_
    rintro e w1 ⟨rfl, hb1⟩
    rw [← HT.out]
    go_wp2_with fail
    all_goals go_ret
    all_goals exact ⟨ret_bool (by first | rfl | (simp [*]; done) | (exfalso; omega)), (by repeat' (first | (with_reducible exact Below.refl _ _) | (with_reducible assumption) | (with_reducible refine Below.drew ?_) | (with_reducible refine below_drewN ?_ _) | (with_reducible refine below_iterAt ?_ ?_ _ _) | (with_reducible refine below_iter ?_ ?_ _ _) | (with_reducible refine Below.alloc ?_ ?_ _) | (with_reducible refine Below.setCell ?_ ?_ _) | (with_reducible refine Below.trans ?_ (Below.mono (by assumption) ?_)) | (simp only [sz_alloc, sz_set, sz_drew, sz_drewN, sz_iterAt, sz_iter] at *; omega) | omega | (simp; done) | (simp; omega) | (apply Below.size; assumption) | (simp only [sz_drew, sz_drewN]; apply Below.size; assumption) | (refine Nat.le_trans ?_ (Below.size (by assumption)))))⟩
  · have HT : Hid (B = false) := by show B = _; rw [HS.out]; simp only [h0]; rfl
    clear HS
    go_enter Tryz.func13, Tryz.ntmps13
    go_wp2_with fail
    all_goals go_ret
    all_goals exact ⟨ret_bool (by first | (rw [HT.out]; done) | (rw [HT.out]; simp [*]; done) | (rw [HT.out]; simp; omega) | (rw [HT.out]; simp [*]; omega) | (rw [HT.out]; simp only [List.isEmpty_iff, List.isEmpty_eq_false_iff] at *; simp [*]; done) | (rw [HT.out]; simp only [List.isEmpty_iff, List.isEmpty_eq_false_iff] at *; simp [*]; omega) | (rw [HT.out, Bool.eq_iff_iff]; simp only [List.isEmpty_iff, List.isEmpty_eq_false_iff] at *; simp [*]; done) | (exfalso; omega)), (by repeat' (first | (with_reducible exact Below.refl _ _) | (with_reducible assumption) | (with_reducible refine Below.drew ?_) | (with_reducible refine below_drewN ?_ _) | (with_reducible refine below_iterAt ?_ ?_ _ _) | (with_reducible refine below_iter ?_ ?_ _ _) | (with_reducible refine Below.alloc ?_ ?_ _) | (with_reducible refine Below.setCell ?_ ?_ _) | (with_reducible refine Below.trans ?_ (Below.mono (by assumption) ?_)) | (simp only [sz_alloc, sz_set, sz_drew, sz_drewN, sz_iterAt, sz_iter] at *; omega) | omega | (simp; done) | (simp; omega) | (apply Below.size; assumption) | (simp only [sz_drew, sz_drewN]; apply Below.size; assumption) | (refine Nat.le_trans ?_ (Below.size (by assumption)))))⟩

set_option maxRecDepth 100000 in
set_option maxHeartbeats 800000 in
theorem vSound3 (v : Vl) (w : World) (hv : v.wf) (hE : Env w) (hk : v.k = 3) :
    Calls Tryz.prog 13 #[.agg #[.int .i64 v.k, .int .i64 v.n, .int .i64 v.s, .string v.t, .int .i64 v.i]] w fun e w' =>
      e = .returned (.bool (sndB v)) ∧ Below w.heap.size w w' := by
  obtain ⟨k, n, s, t, i⟩ := v
  simp only at hk
  subst hk
  obtain ⟨B, hB⟩ : ∃ B, sndB ⟨3, n, s, t, i⟩ = B := ⟨_, rfl⟩
  rw [hB]
  have HS : Hid (B = decide (n = 0 ∧ s = 0 ∧ t.toList = [] ∧ (i = 0 ∨ i = 1))) := hB.symm
  clear hB
  have hand := i64_and1 i
  by_cases h0 : i = 0
  · subst h0
    clear hand
    have hand : bits .and .i64 0 1 = 0 := i64_and1 0
    have HT : Hid (B = decide (n = 0 ∧ s = 0 ∧ t.toList = [])) := by show B = _; rw [HS.out]; simp
    clear HS
    go_enter Tryz.func13, Tryz.ntmps13
    go_wp2_with fail
    all_goals go_ret
    all_goals exact ⟨ret_bool (by first | (rw [HT.out]; done) | (rw [HT.out]; simp [*]; done) | (rw [HT.out]; simp; omega) | (rw [HT.out]; simp [*]; omega) | (rw [HT.out]; simp only [List.isEmpty_iff, List.isEmpty_eq_false_iff] at *; simp [*]; done) | (rw [HT.out]; simp only [List.isEmpty_iff, List.isEmpty_eq_false_iff] at *; simp [*]; omega) | (rw [HT.out, Bool.eq_iff_iff]; simp only [List.isEmpty_iff, List.isEmpty_eq_false_iff] at *; simp [*]; done) | (exfalso; omega)), (by repeat' (first | (with_reducible exact Below.refl _ _) | (with_reducible assumption) | (with_reducible refine Below.drew ?_) | (with_reducible refine below_drewN ?_ _) | (with_reducible refine below_iterAt ?_ ?_ _ _) | (with_reducible refine below_iter ?_ ?_ _ _) | (with_reducible refine Below.alloc ?_ ?_ _) | (with_reducible refine Below.setCell ?_ ?_ _) | (with_reducible refine Below.trans ?_ (Below.mono (by assumption) ?_)) | (simp only [sz_alloc, sz_set, sz_drew, sz_drewN, sz_iterAt, sz_iter] at *; omega) | omega | (simp; done) | (simp; omega) | (apply Below.size; assumption) | (simp only [sz_drew, sz_drewN]; apply Below.size; assumption) | (refine Nat.le_trans ?_ (Below.size (by assumption)))))⟩
  · by_cases h1 : i = 1
    · subst h1
      clear hand
      have hand : bits .and .i64 1 1 = 1 := i64_and1 1
      have HT : Hid (B = decide (n = 0 ∧ s = 0 ∧ t.toList = [])) := by show B = _; rw [HS.out]; simp
      clear HS
      go_enter Tryz.func13, Tryz.ntmps13
      go_wp2_with fail
      all_goals go_ret
      all_goals exact ⟨ret_bool (by first | (rw [HT.out]; done) | (rw [HT.out]; simp [*]; done) | (rw [HT.out]; simp; omega) | (rw [HT.out]; simp [*]; omega) | (rw [HT.out]; simp only [List.isEmpty_iff, List.isEmpty_eq_false_iff] at *; simp [*]; done) | (rw [HT.out]; simp only [List.isEmpty_iff, List.isEmpty_eq_false_iff] at *; simp [*]; omega) | (rw [HT.out, Bool.eq_iff_iff]; simp only [List.isEmpty_iff, List.isEmpty_eq_false_iff] at *; simp [*]; done) | (exfalso; omega)), (by repeat' (first | (with_reducible exact Below.refl _ _) | (with_reducible assumption) | (with_reducible refine Below.drew ?_) | (with_reducible refine below_drewN ?_ _) | (with_reducible refine below_iterAt ?_ ?_ _ _) | (with_reducible refine below_iter ?_ ?_ _ _) | (with_reducible refine Below.alloc ?_ ?_ _) | (with_reducible refine Below.setCell ?_ ?_ _) | (with_reducible refine Below.trans ?_ (Below.mono (by assumption) ?_)) | (simp only [sz_alloc, sz_set, sz_drew, sz_drewN, sz_iterAt, sz_iter] at *; omega) | omega | (simp; done) | (simp; omega) | (apply Below.size; assumption) | (simp only [sz_drew, sz_drewN]; apply Below.size; assumption) | (refine Nat.le_trans ?_ (Below.size (by assumption)))))⟩
    · have hne : ¬ (i = i % 2) := by omega
      have HT : Hid (B = false) := by show B = _; rw [HS.out]; simp [h0, h1]
      clear HS h0 h1
      go_enter Tryz.func13, Tryz.ntmps13
      go_wp2_with fail
      all_goals go_ret
      all_goals exact ⟨ret_bool (by first | (rw [HT.out]; done) | (rw [HT.out]; simp [*]; done) | (rw [HT.out]; simp; omega) | (rw [HT.out]; simp [*]; omega) | (rw [HT.out]; simp only [List.isEmpty_iff, List.isEmpty_eq_false_iff] at *; simp [*]; done) | (rw [HT.out]; simp only [List.isEmpty_iff, List.isEmpty_eq_false_iff] at *; simp [*]; omega) | (rw [HT.out, Bool.eq_iff_iff]; simp only [List.isEmpty_iff, List.isEmpty_eq_false_iff] at *; simp [*]; done) | (exfalso; omega)), (by repeat' (first | (with_reducible exact Below.refl _ _) | (with_reducible assumption) | (with_reducible refine Below.drew ?_) | (with_reducible refine below_drewN ?_ _) | (with_reducible refine below_iterAt ?_ ?_ _ _) | (with_reducible refine below_iter ?_ ?_ _ _) | (with_reducible refine Below.alloc ?_ ?_ _) | (with_reducible refine Below.setCell ?_ ?_ _) | (with_reducible refine Below.trans ?_ (Below.mono (by assumption) ?_)) | (simp only [sz_alloc, sz_set, sz_drew, sz_drewN, sz_iterAt, sz_iter] at *; omega) | omega | (simp; done) | (simp; omega) | (apply Below.size; assumption) | (simp only [sz_drew, sz_drewN]; apply Below.size; assumption) | (refine Nat.le_trans ?_ (Below.size (by assumption)))))⟩

set_option maxRecDepth 100000 in
set_option maxHeartbeats 800000 in
theorem vSound4 (v : Vl) (w : World) (hv : v.wf) (hE : Env w) (hk : v.k = 4) :
    Calls Tryz.prog 13 #[.agg #[.int .i64 v.k, .int .i64 v.n, .int .i64 v.s, .string v.t, .int .i64 v.i]] w fun e w' =>
      e = .returned (.bool (sndB v)) ∧ Below w.heap.size w w' := by
  obtain ⟨k, n, s, t, i⟩ := v
  simp only at hk
  subst hk
  obtain ⟨B, hB⟩ : ∃ B, sndB ⟨4, n, s, t, i⟩ = B := ⟨_, rfl⟩
  rw [hB]
  have HS : Hid (B = decide (n = 0 ∧ s = 0 ∧ t.toList = [] ∧ 0 ≤ i ∧ i ≤ 3652058)) := hB.symm
  clear hB
  by_cases h0 : i < 0
  · have HT : Hid (B = false) := by
      show B = _; rw [HS.out]; rw [decide_eq_false_iff_not]; omega
    clear HS
    go_enter Tryz.func13, Tryz.ntmps13
    go_wp2_with fail
    all_goals go_ret
    all_goals exact ⟨ret_bool (by first | (rw [HT.out]; done) | (rw [HT.out]; simp [*]; done) | (rw [HT.out]; simp; omega) | (rw [HT.out]; simp [*]; omega) | (rw [HT.out]; simp only [List.isEmpty_iff, List.isEmpty_eq_false_iff] at *; simp [*]; done) | (rw [HT.out]; simp only [List.isEmpty_iff, List.isEmpty_eq_false_iff] at *; simp [*]; omega) | (rw [HT.out, Bool.eq_iff_iff]; simp only [List.isEmpty_iff, List.isEmpty_eq_false_iff] at *; simp [*]; done) | (exfalso; omega)), (by repeat' (first | (with_reducible exact Below.refl _ _) | (with_reducible assumption) | (with_reducible refine Below.drew ?_) | (with_reducible refine below_drewN ?_ _) | (with_reducible refine below_iterAt ?_ ?_ _ _) | (with_reducible refine below_iter ?_ ?_ _ _) | (with_reducible refine Below.alloc ?_ ?_ _) | (with_reducible refine Below.setCell ?_ ?_ _) | (with_reducible refine Below.trans ?_ (Below.mono (by assumption) ?_)) | (simp only [sz_alloc, sz_set, sz_drew, sz_drewN, sz_iterAt, sz_iter] at *; omega) | omega | (simp; done) | (simp; omega) | (apply Below.size; assumption) | (simp only [sz_drew, sz_drewN]; apply Below.size; assumption) | (refine Nat.le_trans ?_ (Below.size (by assumption)))))⟩
  · by_cases h1 : 3652058 < i
    · have HT : Hid (B = false) := by
        show B = _; rw [HS.out]; rw [decide_eq_false_iff_not]; omega
      clear HS
      go_enter Tryz.func13, Tryz.ntmps13
      go_wp2_with fail
      all_goals go_ret
      all_goals exact ⟨ret_bool (by first | (rw [HT.out]; done) | (rw [HT.out]; simp [*]; done) | (rw [HT.out]; simp; omega) | (rw [HT.out]; simp [*]; omega) | (rw [HT.out]; simp only [List.isEmpty_iff, List.isEmpty_eq_false_iff] at *; simp [*]; done) | (rw [HT.out]; simp only [List.isEmpty_iff, List.isEmpty_eq_false_iff] at *; simp [*]; omega) | (rw [HT.out, Bool.eq_iff_iff]; simp only [List.isEmpty_iff, List.isEmpty_eq_false_iff] at *; simp [*]; done) | (exfalso; omega)), (by repeat' (first | (with_reducible exact Below.refl _ _) | (with_reducible assumption) | (with_reducible refine Below.drew ?_) | (with_reducible refine below_drewN ?_ _) | (with_reducible refine below_iterAt ?_ ?_ _ _) | (with_reducible refine below_iter ?_ ?_ _ _) | (with_reducible refine Below.alloc ?_ ?_ _) | (with_reducible refine Below.setCell ?_ ?_ _) | (with_reducible refine Below.trans ?_ (Below.mono (by assumption) ?_)) | (simp only [sz_alloc, sz_set, sz_drew, sz_drewN, sz_iterAt, sz_iter] at *; omega) | omega | (simp; done) | (simp; omega) | (apply Below.size; assumption) | (simp only [sz_drew, sz_drewN]; apply Below.size; assumption) | (refine Nat.le_trans ?_ (Below.size (by assumption)))))⟩
    · have h2 : 0 ≤ i := by omega
      have h3 : i ≤ 3652058 := by omega
      have HT : Hid (B = decide (n = 0 ∧ s = 0 ∧ t.toList = [])) := by show B = _; rw [HS.out, decide_eq_decide]; simp [h2, h3]
      clear HS h0 h1
      go_enter Tryz.func13, Tryz.ntmps13
      go_wp2_with fail
      go_ways
      all_goals go_ret
      all_goals exact ⟨ret_bool (by first | (rw [HT.out]; done) | (rw [HT.out]; simp [*]; done) | (rw [HT.out]; simp; omega) | (rw [HT.out]; simp [*]; omega) | (rw [HT.out]; simp only [List.isEmpty_iff, List.isEmpty_eq_false_iff] at *; simp [*]; done) | (rw [HT.out]; simp only [List.isEmpty_iff, List.isEmpty_eq_false_iff] at *; simp [*]; omega) | (rw [HT.out, Bool.eq_iff_iff]; simp only [List.isEmpty_iff, List.isEmpty_eq_false_iff] at *; simp [*]; done) | (exfalso; omega)), (by repeat' (first | (with_reducible exact Below.refl _ _) | (with_reducible assumption) | (with_reducible refine Below.drew ?_) | (with_reducible refine below_drewN ?_ _) | (with_reducible refine below_iterAt ?_ ?_ _ _) | (with_reducible refine below_iter ?_ ?_ _ _) | (with_reducible refine Below.alloc ?_ ?_ _) | (with_reducible refine Below.setCell ?_ ?_ _) | (with_reducible refine Below.trans ?_ (Below.mono (by assumption) ?_)) | (simp only [sz_alloc, sz_set, sz_drew, sz_drewN, sz_iterAt, sz_iter] at *; omega) | omega | (simp; done) | (simp; omega) | (apply Below.size; assumption) | (simp only [sz_drew, sz_drewN]; apply Below.size; assumption) | (refine Nat.le_trans ?_ (Below.size (by assumption)))))⟩

set_option maxHeartbeats 800000 in
theorem vSound5 (v : Vl) (w : World) (hv : v.wf) (hE : Env w) (h0 : ¬ v.k = 0) (h1 : ¬ v.k = 1) (h2 : ¬ v.k = 2) (h3 : ¬ v.k = 3) (h4 : ¬ v.k = 4) :
    Calls Tryz.prog 13 #[.agg #[.int .i64 v.k, .int .i64 v.n, .int .i64 v.s, .string v.t, .int .i64 v.i]] w fun e w' =>
      e = .returned (.bool (sndB v)) ∧ Below w.heap.size w w' := by
  obtain ⟨k, n, s, t, i⟩ := v
  simp only at h0 h1 h2 h3 h4
  have e0 : (k == 0) = false := by simp [h0]
  have e1 : (k == 1) = false := by simp [h1]
  have e2 : (k == 2) = false := by simp [h2]
  have e3 : (k == 3) = false := by simp [h3]
  have e4 : (k == 4) = false := by simp [h4]
  obtain ⟨B, hB⟩ : ∃ B, sndB ⟨k, n, s, t, i⟩ = B := ⟨_, rfl⟩
  rw [hB]
  have HS : Hid (B = false) := by show B = _; rw [← hB]; simp only [sndB, h0, h1, h2, h3, h4, if_false]
  clear hB
  clear h0 h1 h2 h3 h4
  go_enter Tryz.func13, Tryz.ntmps13
  go_wp2_with fail
  all_goals go_ret
  all_goals exact ⟨ret_bool (by first | (rw [HS.out]; done) | (rw [HS.out]; simp [*]; done) | (rw [HS.out]; simp; omega) | (rw [HS.out]; simp [*]; omega) | (rw [HS.out]; simp only [List.isEmpty_iff, List.isEmpty_eq_false_iff] at *; simp [*]; done) | (rw [HS.out]; simp only [List.isEmpty_iff, List.isEmpty_eq_false_iff] at *; simp [*]; omega) | (rw [HS.out, Bool.eq_iff_iff]; simp only [List.isEmpty_iff, List.isEmpty_eq_false_iff] at *; simp [*]; done) | (exfalso; omega)), (by repeat' (first | (with_reducible exact Below.refl _ _) | (with_reducible assumption) | (with_reducible refine Below.drew ?_) | (with_reducible refine below_drewN ?_ _) | (with_reducible refine below_iterAt ?_ ?_ _ _) | (with_reducible refine below_iter ?_ ?_ _ _) | (with_reducible refine Below.alloc ?_ ?_ _) | (with_reducible refine Below.setCell ?_ ?_ _) | (with_reducible refine Below.trans ?_ (Below.mono (by assumption) ?_)) | (simp only [sz_alloc, sz_set, sz_drew, sz_drewN, sz_iterAt, sz_iter] at *; omega) | omega | (simp; done) | (simp; omega) | (apply Below.size; assumption) | (simp only [sz_drew, sz_drewN]; apply Below.size; assumption) | (refine Nat.le_trans ?_ (Below.size (by assumption)))))⟩

theorem vSound_any (v : Vl) (w : World) (hv : v.wf) (hE : Env w) :
    Calls Tryz.prog 13 #[.agg #[.int .i64 v.k, .int .i64 v.n, .int .i64 v.s, .string v.t, .int .i64 v.i]] w fun e w' =>
      e = .returned (.bool (sndB v)) ∧ Below w.heap.size w w' := by
  by_cases h0 : v.k = 0
  · exact vSound0 v w hv hE h0
  by_cases h1 : v.k = 1
  · exact vSound1 v w hv hE h1
  by_cases h2 : v.k = 2
  · exact vSound2 v w hv hE h2
  by_cases h3 : v.k = 3
  · exact vSound3 v w hv hE h3
  by_cases h4 : v.k = 4
  · exact vSound4 v w hv hE h4
  exact vSound5 v w hv hE h0 h1 h2 h3 h4
end Go.Proofs.YthicilfhnakhmaaGreatDoor
