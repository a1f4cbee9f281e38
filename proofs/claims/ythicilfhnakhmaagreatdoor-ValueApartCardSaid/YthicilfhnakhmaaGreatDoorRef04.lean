/- soffitref04.Sound, walked. -/
import Derived.Test.YthicilfhnakhmaaGreatDoorVl
import Derived.Test.YthicilfhnakhmaaGreatDoorRef01
import Derived.Test.YthicilfhnakhmaaGreatDoorGood04
set_option linter.unusedSimpArgs false
set_option linter.unusedVariables false
namespace Go.Proofs.YthicilfhnakhmaaGreatDoor
open Go.RowKit

set_option maxRecDepth 100000 in
set_option maxHeartbeats 800000 in
theorem rSound0 (v : Vl) (w : World) (hv : v.wf) (hk : v.k = 0) :
    Calls Tryz.prog 14 #[.agg #[.int .i64 v.k, .int .i64 v.n, .int .i64 v.s, .string v.t, .int .i64 v.i]] w fun e w' =>
      e = .returned (.bool (sndB v)) ∧ Below w.heap.size w w' := by
  obtain ⟨k, n, s, t, i⟩ := v
  simp only at hk
  subst hk
  obtain ⟨B, hB⟩ : ∃ B, sndB ⟨0, n, s, t, i⟩ = B := ⟨_, rfl⟩
  rw [hB]
  have HS : Hid (B = decide (n = 0 ∧ s = 0 ∧ t.toList = [] ∧ i = 0)) := hB.symm
  clear hB
  go_enter Tryz.func14, Tryz.ntmps14
  go_wp2_with fail
  all_goals go_ret
  all_goals exact ⟨ret_bool (by first | (rw [HS.out]; done) | (rw [HS.out]; simp [*]; done) | (rw [HS.out]; simp; omega) | (rw [HS.out]; simp [*]; omega) | (rw [HS.out]; simp only [List.isEmpty_iff, List.isEmpty_eq_false_iff] at *; simp [*]; done) | (rw [HS.out]; simp only [List.isEmpty_iff, List.isEmpty_eq_false_iff] at *; simp [*]; omega) | (rw [HS.out, Bool.eq_iff_iff]; simp only [List.isEmpty_iff, List.isEmpty_eq_false_iff] at *; simp [*]; done) | (exfalso; omega)), (by repeat' (first | (with_reducible exact Below.refl _ _) | (with_reducible assumption) | (with_reducible refine Below.drew ?_) | (with_reducible refine below_drewN ?_ _) | (with_reducible refine below_iterAt ?_ ?_ _ _) | (with_reducible refine below_iter ?_ ?_ _ _) | (with_reducible refine Below.alloc ?_ ?_ _) | (with_reducible refine Below.setCell ?_ ?_ _) | (with_reducible refine Below.trans ?_ (Below.mono (by assumption) ?_)) | (simp only [sz_alloc, sz_set, sz_drew, sz_drewN, sz_iterAt, sz_iter] at *; omega) | omega | (simp; done) | (simp; omega) | (apply Below.size; assumption) | (simp only [sz_drew, sz_drewN]; apply Below.size; assumption) | (refine Nat.le_trans ?_ (Below.size (by assumption)))))⟩

set_option maxRecDepth 100000 in
set_option maxHeartbeats 800000 in
theorem rSound3 (v : Vl) (w : World) (hv : v.wf) (hk : v.k = 3) :
    Calls Tryz.prog 14 #[.agg #[.int .i64 v.k, .int .i64 v.n, .int .i64 v.s, .string v.t, .int .i64 v.i]] w fun e w' =>
      e = .returned (.bool (sndB v)) ∧ Below w.heap.size w w' := by
  obtain ⟨k, n, s, t, i⟩ := v
  simp only at hk
  subst hk
  obtain ⟨B, hB⟩ : ∃ B, sndB ⟨3, n, s, t, i⟩ = B := ⟨_, rfl⟩
  rw [hB]
  have HS : Hid (B = decide (n = 0 ∧ s = 0 ∧ t.toList = [] ∧ (i = 0 ∨ i = 1))) := hB.symm
  clear hB
  go_enter Tryz.func14, Tryz.ntmps14
  go_wp2_with fail
  all_goals go_ret
  all_goals exact ⟨ret_bool (by first | (rw [HS.out]; done) | (rw [HS.out]; simp [*]; done) | (rw [HS.out]; simp; omega) | (rw [HS.out]; simp [*]; omega) | (rw [HS.out]; simp only [List.isEmpty_iff, List.isEmpty_eq_false_iff] at *; simp [*]; done) | (rw [HS.out]; simp only [List.isEmpty_iff, List.isEmpty_eq_false_iff] at *; simp [*]; omega) | (rw [HS.out, Bool.eq_iff_iff]; simp only [List.isEmpty_iff, List.isEmpty_eq_false_iff] at *; simp [*]; done) | (exfalso; omega)), (by repeat' (first | (with_reducible exact Below.refl _ _) | (with_reducible assumption) | (with_reducible refine Below.drew ?_) | (with_reducible refine below_drewN ?_ _) | (with_reducible refine below_iterAt ?_ ?_ _ _) | (with_reducible refine below_iter ?_ ?_ _ _) | (with_reducible refine Below.alloc ?_ ?_ _) | (with_reducible refine Below.setCell ?_ ?_ _) | (with_reducible refine Below.trans ?_ (Below.mono (by assumption) ?_)) | (simp only [sz_alloc, sz_set, sz_drew, sz_drewN, sz_iterAt, sz_iter] at *; omega) | omega | (simp; done) | (simp; omega) | (apply Below.size; assumption) | (simp only [sz_drew, sz_drewN]; apply Below.size; assumption) | (refine Nat.le_trans ?_ (Below.size (by assumption)))))⟩

set_option maxRecDepth 100000 in
set_option maxHeartbeats 800000 in
theorem rSound4 (v : Vl) (w : World) (hv : v.wf) (hk : v.k = 4) :
    Calls Tryz.prog 14 #[.agg #[.int .i64 v.k, .int .i64 v.n, .int .i64 v.s, .string v.t, .int .i64 v.i]] w fun e w' =>
      e = .returned (.bool (sndB v)) ∧ Below w.heap.size w w' := by
  obtain ⟨k, n, s, t, i⟩ := v
  simp only at hk
  subst hk
  obtain ⟨B, hB⟩ : ∃ B, sndB ⟨4, n, s, t, i⟩ = B := ⟨_, rfl⟩
  rw [hB]
  have HS : Hid (B = decide (n = 0 ∧ s = 0 ∧ t.toList = [] ∧ 0 ≤ i ∧ i ≤ 3652058)) := hB.symm
  clear hB
  go_enter Tryz.func14, Tryz.ntmps14
  go_wp2_with fail
  all_goals go_ret
  all_goals exact ⟨ret_bool (by first | (rw [HS.out]; done) | (rw [HS.out]; simp [*]; done) | (rw [HS.out]; simp; omega) | (rw [HS.out]; simp [*]; omega) | (rw [HS.out]; simp only [List.isEmpty_iff, List.isEmpty_eq_false_iff] at *; simp [*]; done) | (rw [HS.out]; simp only [List.isEmpty_iff, List.isEmpty_eq_false_iff] at *; simp [*]; omega) | (rw [HS.out, Bool.eq_iff_iff]; simp only [List.isEmpty_iff, List.isEmpty_eq_false_iff] at *; simp [*]; done) | (exfalso; omega)), (by repeat' (first | (with_reducible exact Below.refl _ _) | (with_reducible assumption) | (with_reducible refine Below.drew ?_) | (with_reducible refine below_drewN ?_ _) | (with_reducible refine below_iterAt ?_ ?_ _ _) | (with_reducible refine below_iter ?_ ?_ _ _) | (with_reducible refine Below.alloc ?_ ?_ _) | (with_reducible refine Below.setCell ?_ ?_ _) | (with_reducible refine Below.trans ?_ (Below.mono (by assumption) ?_)) | (simp only [sz_alloc, sz_set, sz_drew, sz_drewN, sz_iterAt, sz_iter] at *; omega) | omega | (simp; done) | (simp; omega) | (apply Below.size; assumption) | (simp only [sz_drew, sz_drewN]; apply Below.size; assumption) | (refine Nat.le_trans ?_ (Below.size (by assumption)))))⟩

set_option maxRecDepth 100000 in
set_option maxHeartbeats 800000 in
theorem rSound1 (v : Vl) (w : World) (hv : v.wf) (hk : v.k = 1) :
    Calls Tryz.prog 14 #[.agg #[.int .i64 v.k, .int .i64 v.n, .int .i64 v.s, .string v.t, .int .i64 v.i]] w fun e w' =>
      e = .returned (.bool (sndB v)) ∧ Below w.heap.size w w' := by
  obtain ⟨k, n, s, t, i⟩ := v
  simp only at hk
  subst hk
  obtain ⟨B, hB⟩ : ∃ B, sndB ⟨1, n, s, t, i⟩ = B := ⟨_, rfl⟩
  rw [hB]
  have HS : Hid (B = (decide (t.toList = [] ∧ i = 0) && decSnd n s)) := hB.symm
  clear hB
  by_cases hn : n = 0
  · subst hn
    go_enter Tryz.func14, Tryz.ntmps14
    go_wp2_with fail
    refine (ref01Sound_any 0 s _).mono ?_
    rintro e w1 ⟨rfl, hb1⟩
    obtain ⟨hc1, hf1⟩ := bcell hb1
    have hz1 := hb1.size
    try simp at hz1
    have q1_0 := fun o => hc1 (w.heap.size) o (by first | omega | (simp only [sz_alloc, sz_set, sz_drew, sz_drewN, sz_iterAt, sz_iter] at *; omega) | (simp; done) | (simp; omega) | (simp at *; omega))
    have l1_0 : w.heap.size < w1.heap.size := by omega
    have r1_0 := fun o => hf1 (w.heap.size) o (by first | omega | (simp only [sz_alloc, sz_set, sz_drew, sz_drewN, sz_iterAt, sz_iter] at *; omega) | (simp; done) | (simp; omega) | (simp at *; omega))
    clear hc1 hf1
    obtain ⟨d, hd⟩ : ∃ d, decSnd 0 s = d := ⟨_, rfl⟩
    rw [hd]
    have HT : Hid (B = (decide (t.toList = [] ∧ i = 0) && d)) := by rw [← hd]; exact HS.out
    clear hd HS
    cases d
    · have HU : Hid (B = false) := by show B = _; rw [HT.out]; simp
      clear HT
      go_wp2_with fail
      all_goals go_ret
      all_goals exact ⟨ret_bool (by first | (rw [HU.out]; done) | (rw [HU.out]; simp [*]; done) | (rw [HU.out]; simp; omega) | (rw [HU.out]; simp [*]; omega) | (rw [HU.out]; simp only [List.isEmpty_iff, List.isEmpty_eq_false_iff] at *; simp [*]; done) | (rw [HU.out]; simp only [List.isEmpty_iff, List.isEmpty_eq_false_iff] at *; simp [*]; omega) | (rw [HU.out, Bool.eq_iff_iff]; simp only [List.isEmpty_iff, List.isEmpty_eq_false_iff] at *; simp [*]; done) | (exfalso; omega)), (by repeat' (first | (with_reducible exact Below.refl _ _) | (with_reducible assumption) | (with_reducible refine Below.drew ?_) | (with_reducible refine below_drewN ?_ _) | (with_reducible refine below_iterAt ?_ ?_ _ _) | (with_reducible refine below_iter ?_ ?_ _ _) | (with_reducible refine Below.alloc ?_ ?_ _) | (with_reducible refine Below.setCell ?_ ?_ _) | (with_reducible refine Below.trans ?_ (Below.mono (by assumption) ?_)) | (simp only [sz_alloc, sz_set, sz_drew, sz_drewN, sz_iterAt, sz_iter] at *; omega) | omega | (simp; done) | (simp; omega) | (apply Below.size; assumption) | (simp only [sz_drew, sz_drewN]; apply Below.size; assumption) | (refine Nat.le_trans ?_ (Below.size (by assumption)))))⟩
    · have HU : Hid (B = decide (t.toList = [] ∧ i = 0)) := by show B = _; rw [HT.out]; simp
      clear HT
      go_wp2_with fail
      all_goals go_ret
      all_goals exact ⟨ret_bool (by first | (rw [HU.out]; done) | (rw [HU.out]; simp [*]; done) | (rw [HU.out]; simp; omega) | (rw [HU.out]; simp [*]; omega) | (rw [HU.out]; simp only [List.isEmpty_iff, List.isEmpty_eq_false_iff] at *; simp [*]; done) | (rw [HU.out]; simp only [List.isEmpty_iff, List.isEmpty_eq_false_iff] at *; simp [*]; omega) | (rw [HU.out, Bool.eq_iff_iff]; simp only [List.isEmpty_iff, List.isEmpty_eq_false_iff] at *; simp [*]; done) | (exfalso; omega)), (by repeat' (first | (with_reducible exact Below.refl _ _) | (with_reducible assumption) | (with_reducible refine Below.drew ?_) | (with_reducible refine below_drewN ?_ _) | (with_reducible refine below_iterAt ?_ ?_ _ _) | (with_reducible refine below_iter ?_ ?_ _ _) | (with_reducible refine Below.alloc ?_ ?_ _) | (with_reducible refine Below.setCell ?_ ?_ _) | (with_reducible refine Below.trans ?_ (Below.mono (by assumption) ?_)) | (simp only [sz_alloc, sz_set, sz_drew, sz_drewN, sz_iterAt, sz_iter] at *; omega) | omega | (simp; done) | (simp; omega) | (apply Below.size; assumption) | (simp only [sz_drew, sz_drewN]; apply Below.size; assumption) | (refine Nat.le_trans ?_ (Below.size (by assumption)))))⟩
  · go_enter Tryz.func14, Tryz.ntmps14
    go_wp2_with fail
    refine (ref01Sound_any n s _).mono ?_
    rintro e w1 ⟨rfl, hb1⟩
    obtain ⟨hc1, hf1⟩ := bcell hb1
    have hz1 := hb1.size
    try simp at hz1
    have q1_0 := fun o => hc1 (w.heap.size) o (by first | omega | (simp only [sz_alloc, sz_set, sz_drew, sz_drewN, sz_iterAt, sz_iter] at *; omega) | (simp; done) | (simp; omega) | (simp at *; omega))
    have l1_0 : w.heap.size < w1.heap.size := by omega
    have r1_0 := fun o => hf1 (w.heap.size) o (by first | omega | (simp only [sz_alloc, sz_set, sz_drew, sz_drewN, sz_iterAt, sz_iter] at *; omega) | (simp; done) | (simp; omega) | (simp at *; omega))
    clear hc1 hf1
    obtain ⟨d, hd⟩ : ∃ d, decSnd n s = d := ⟨_, rfl⟩
    rw [hd]
    have HT : Hid (B = (decide (t.toList = [] ∧ i = 0) && d)) := by rw [← hd]; exact HS.out
    clear hd HS
    cases d
    · have HU : Hid (B = false) := by show B = _; rw [HT.out]; simp
      clear HT
      go_wp2_with fail
      all_goals go_ret
      all_goals exact ⟨ret_bool (by first | (rw [HU.out]; done) | (rw [HU.out]; simp [*]; done) | (rw [HU.out]; simp; omega) | (rw [HU.out]; simp [*]; omega) | (rw [HU.out]; simp only [List.isEmpty_iff, List.isEmpty_eq_false_iff] at *; simp [*]; done) | (rw [HU.out]; simp only [List.isEmpty_iff, List.isEmpty_eq_false_iff] at *; simp [*]; omega) | (rw [HU.out, Bool.eq_iff_iff]; simp only [List.isEmpty_iff, List.isEmpty_eq_false_iff] at *; simp [*]; done) | (exfalso; omega)), (by repeat' (first | (with_reducible exact Below.refl _ _) | (with_reducible assumption) | (with_reducible refine Below.drew ?_) | (with_reducible refine below_drewN ?_ _) | (with_reducible refine below_iterAt ?_ ?_ _ _) | (with_reducible refine below_iter ?_ ?_ _ _) | (with_reducible refine Below.alloc ?_ ?_ _) | (with_reducible refine Below.setCell ?_ ?_ _) | (with_reducible refine Below.trans ?_ (Below.mono (by assumption) ?_)) | (simp only [sz_alloc, sz_set, sz_drew, sz_drewN, sz_iterAt, sz_iter] at *; omega) | omega | (simp; done) | (simp; omega) | (apply Below.size; assumption) | (simp only [sz_drew, sz_drewN]; apply Below.size; assumption) | (refine Nat.le_trans ?_ (Below.size (by assumption)))))⟩
    · have HU : Hid (B = decide (t.toList = [] ∧ i = 0)) := by show B = _; rw [HT.out]; simp
      clear HT
      go_wp2_with fail
      all_goals go_ret
      all_goals exact ⟨ret_bool (by first | (rw [HU.out]; done) | (rw [HU.out]; simp [*]; done) | (rw [HU.out]; simp; omega) | (rw [HU.out]; simp [*]; omega) | (rw [HU.out]; simp only [List.isEmpty_iff, List.isEmpty_eq_false_iff] at *; simp [*]; done) | (rw [HU.out]; simp only [List.isEmpty_iff, List.isEmpty_eq_false_iff] at *; simp [*]; omega) | (rw [HU.out, Bool.eq_iff_iff]; simp only [List.isEmpty_iff, List.isEmpty_eq_false_iff] at *; simp [*]; done) | (exfalso; omega)), (by repeat' (first | (with_reducible exact Below.refl _ _) | (with_reducible assumption) | (with_reducible refine Below.drew ?_) | (with_reducible refine below_drewN ?_ _) | (with_reducible refine below_iterAt ?_ ?_ _ _) | (with_reducible refine below_iter ?_ ?_ _ _) | (with_reducible refine Below.alloc ?_ ?_ _) | (with_reducible refine Below.setCell ?_ ?_ _) | (with_reducible refine Below.trans ?_ (Below.mono (by assumption) ?_)) | (simp only [sz_alloc, sz_set, sz_drew, sz_drewN, sz_iterAt, sz_iter] at *; omega) | omega | (simp; done) | (simp; omega) | (apply Below.size; assumption) | (simp only [sz_drew, sz_drewN]; apply Below.size; assumption) | (refine Nat.le_trans ?_ (Below.size (by assumption)))))⟩

set_option maxRecDepth 100000 in
set_option maxHeartbeats 800000 in
theorem rSound2 (v : Vl) (w : World) (hv : v.wf) (hk : v.k = 2) :
    Calls Tryz.prog 14 #[.agg #[.int .i64 v.k, .int .i64 v.n, .int .i64 v.s, .string v.t, .int .i64 v.i]] w fun e w' =>
      e = .returned (.bool (sndB v)) ∧ Below w.heap.size w w' := by
  obtain ⟨k, n, s, t, i⟩ := v
  simp only at hk
  subst hk
  obtain ⟨B, hB⟩ : ∃ B, sndB ⟨2, n, s, t, i⟩ = B := ⟨_, rfl⟩
  rw [hB]
  have HS : Hid (B = (decide (n = 0 ∧ s = 0 ∧ i = 0 ∧ t.size ≤ 256) && goodB t)) := hB.symm
  clear hB
  by_cases h0 : n = 0 ∧ s = 0 ∧ i = 0 ∧ t.size ≤ 256
  · obtain ⟨rfl, rfl, rfl, hz⟩ := h0
    have HT : Hid (B = goodB t) := by show B = _; rw [HS.out]; simp [hz]
    go_enter Tryz.func14, Tryz.ntmps14
    go_wp2_with fail
    refine (refGood_any t _ (by omega)).mono ?_
    rintro e w1 ⟨rfl, rfl⟩
    rw [← HT.out]
    go_wp2_with fail
    all_goals go_ret
    all_goals exact ⟨ret_bool (by first | rfl | (simp [*]; done) | (exfalso; omega)), (by repeat' (first | (with_reducible exact Below.refl _ _) | (with_reducible assumption) | (with_reducible refine Below.drew ?_) | (with_reducible refine below_drewN ?_ _) | (with_reducible refine below_iterAt ?_ ?_ _ _) | (with_reducible refine below_iter ?_ ?_ _ _) | (with_reducible refine Below.alloc ?_ ?_ _) | (with_reducible refine Below.setCell ?_ ?_ _) | (with_reducible refine Below.trans ?_ (Below.mono (by assumption) ?_)) | (simp only [sz_alloc, sz_set, sz_drew, sz_drewN, sz_iterAt, sz_iter] at *; omega) | omega | (simp; done) | (simp; omega) | (apply Below.size; assumption) | (simp only [sz_drew, sz_drewN]; apply Below.size; assumption) | (refine Nat.le_trans ?_ (Below.size (by assumption)))))⟩
  · have HT : Hid (B = false) := by show B = _; rw [HS.out]; simp only [h0]; rfl
    clear HS
    go_enter Tryz.func14, Tryz.ntmps14
    go_wp2_with fail
    go_ways
    all_goals try (exfalso; omega)
    go_goals
    all_goals go_ret
    all_goals exact ⟨ret_bool (by first | (rw [HT.out]; done) | (rw [HT.out]; simp [*]; done) | (rw [HT.out]; simp; omega) | (rw [HT.out]; simp [*]; omega) | (rw [HT.out]; simp only [List.isEmpty_iff, List.isEmpty_eq_false_iff] at *; simp [*]; done) | (rw [HT.out]; simp only [List.isEmpty_iff, List.isEmpty_eq_false_iff] at *; simp [*]; omega) | (rw [HT.out, Bool.eq_iff_iff]; simp only [List.isEmpty_iff, List.isEmpty_eq_false_iff] at *; simp [*]; done) | (exfalso; omega)), (by repeat' (first | (with_reducible exact Below.refl _ _) | (with_reducible assumption) | (with_reducible refine Below.drew ?_) | (with_reducible refine below_drewN ?_ _) | (with_reducible refine below_iterAt ?_ ?_ _ _) | (with_reducible refine below_iter ?_ ?_ _ _) | (with_reducible refine Below.alloc ?_ ?_ _) | (with_reducible refine Below.setCell ?_ ?_ _) | (with_reducible refine Below.trans ?_ (Below.mono (by assumption) ?_)) | (simp only [sz_alloc, sz_set, sz_drew, sz_drewN, sz_iterAt, sz_iter] at *; omega) | omega | (simp; done) | (simp; omega) | (apply Below.size; assumption) | (simp only [sz_drew, sz_drewN]; apply Below.size; assumption) | (refine Nat.le_trans ?_ (Below.size (by assumption)))))⟩

set_option maxRecDepth 100000 in
set_option maxHeartbeats 800000 in
theorem rSound5 (v : Vl) (w : World) (hv : v.wf) (h0 : ¬ v.k = 0) (h1 : ¬ v.k = 1) (h2 : ¬ v.k = 2) (h3 : ¬ v.k = 3) (h4 : ¬ v.k = 4) :
    Calls Tryz.prog 14 #[.agg #[.int .i64 v.k, .int .i64 v.n, .int .i64 v.s, .string v.t, .int .i64 v.i]] w fun e w' =>
      e = .returned (.bool (sndB v)) ∧ Below w.heap.size w w' := by
  obtain ⟨k, n, s, t, i⟩ := v
  simp only at h0 h1 h2 h3 h4
  have e0 : (k == 0) = false := by simp [h0]
  have e1 : (k == 1) = false := by simp [h1]
  have e2 : (k == 2) = false := by simp [h2]
  have e3 : (k == 3) = false := by simp [h3]
  have e4 : (k == 4) = false := by simp [h4]
  obtain ⟨B, hB⟩ : ∃ B, sndB ⟨k, n, s, t, i⟩ = B := ⟨_, rfl⟩
  rw [hB]
  have HS : Hid (B = false) := by show B = _; rw [← hB]; simp only [sndB, h0, h1, h2, h3, h4, if_false]
  clear h0 h1 h2 h3 h4 hB
  go_enter Tryz.func14, Tryz.ntmps14
  go_wp2_with fail
  all_goals go_ret
  all_goals exact ⟨ret_bool (by first | (rw [HS.out]; done) | (rw [HS.out]; simp [*]; done) | (rw [HS.out]; simp; omega) | (rw [HS.out]; simp [*]; omega) | (rw [HS.out]; simp only [List.isEmpty_iff, List.isEmpty_eq_false_iff] at *; simp [*]; done) | (rw [HS.out]; simp only [List.isEmpty_iff, List.isEmpty_eq_false_iff] at *; simp [*]; omega) | (rw [HS.out, Bool.eq_iff_iff]; simp only [List.isEmpty_iff, List.isEmpty_eq_false_iff] at *; simp [*]; done) | (exfalso; omega)), (by repeat' (first | (with_reducible exact Below.refl _ _) | (with_reducible assumption) | (with_reducible refine Below.drew ?_) | (with_reducible refine below_drewN ?_ _) | (with_reducible refine below_iterAt ?_ ?_ _ _) | (with_reducible refine below_iter ?_ ?_ _ _) | (with_reducible refine Below.alloc ?_ ?_ _) | (with_reducible refine Below.setCell ?_ ?_ _) | (with_reducible refine Below.trans ?_ (Below.mono (by assumption) ?_)) | (simp only [sz_alloc, sz_set, sz_drew, sz_drewN, sz_iterAt, sz_iter] at *; omega) | omega | (simp; done) | (simp; omega) | (apply Below.size; assumption) | (simp only [sz_drew, sz_drewN]; apply Below.size; assumption) | (refine Nat.le_trans ?_ (Below.size (by assumption)))))⟩

theorem rSound_any (v : Vl) (w : World) (hv : v.wf) :
    Calls Tryz.prog 14 #[.agg #[.int .i64 v.k, .int .i64 v.n, .int .i64 v.s, .string v.t, .int .i64 v.i]] w fun e w' =>
      e = .returned (.bool (sndB v)) ∧ Below w.heap.size w w' := by
  by_cases h0 : v.k = 0
  · exact rSound0 v w hv h0
  by_cases h1 : v.k = 1
  · exact rSound1 v w hv h1
  by_cases h2 : v.k = 2
  · exact rSound2 v w hv h2
  by_cases h3 : v.k = 3
  · exact rSound3 v w hv h3
  by_cases h4 : v.k = 4
  · exact rSound4 v w hv h4
  exact rSound5 v w hv h0 h1 h2 h3 h4
end Go.Proofs.YthicilfhnakhmaaGreatDoor
