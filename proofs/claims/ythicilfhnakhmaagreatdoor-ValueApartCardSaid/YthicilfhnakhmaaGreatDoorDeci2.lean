/- The numbers: (form).dec and above. -/
import Derived.Test.YthicilfhnakhmaaGreatDoorDeci
set_option linter.unusedSimpArgs false
set_option linter.unusedVariables false
namespace Go.Proofs.YthicilfhnakhmaaGreatDoor
open Go.RowKit

/-- what dec hands back -/
def decRes (b : Bool) (n s : Nat) : Value := if (shU s n).1 ≤ 999999999999 then .tuple #[.agg #[.int .i64 (sgn b (shU s n).1), .int .i64 (shU s n).2], .int .i64 0] else .tuple #[.agg #[.int .i64 0, .int .i64 0], .int .i64 3]
set_option maxHeartbeats 400000 in
theorem dec_any (n s : Nat) (b : Bool) (hn : n ≤ 18446744073709551615) (hs : s ≤ 6) (w : World) :
    Calls Tryz.prog 82 #[.agg #[.int .u64 n, .int .i64 s], .bool b] w fun e w' =>
      e = .returned (decRes b n s) ∧ Below w.heap.size w w' := by
  have hl := shU_le s n
  go_enter Tryz.func82, Tryz.ntmps82
  go_wp2_with fail
  refine (short_any n s hn hs _).mono ?_
  rintro e w1 ⟨rfl, hb1⟩
  obtain ⟨hc1, hf1⟩ := bcell hb1
  have hz1 := hb1.size
  try simp at hz1
  have q1_0 := fun o => hc1 (w.heap.size) o (by first | omega | (simp only [sz_alloc, sz_set, sz_drew, sz_drewN, sz_iterAt, sz_iter] at *; omega) | (simp; done) | (simp; omega) | (simp at *; omega))
  have l1_0 : w.heap.size < w1.heap.size := by omega
  have r1_0 := fun o => hf1 (w.heap.size) o (by first | omega | (simp only [sz_alloc, sz_set, sz_drew, sz_drewN, sz_iterAt, sz_iter] at *; omega) | (simp; done) | (simp; omega) | (simp at *; omega))
  have q1_1 := fun o => hc1 (w.heap.size + 1) o (by first | omega | (simp only [sz_alloc, sz_set, sz_drew, sz_drewN, sz_iterAt, sz_iter] at *; omega) | (simp; done) | (simp; omega) | (simp at *; omega))
  have l1_1 : w.heap.size + 1 < w1.heap.size := by omega
  have r1_1 := fun o => hf1 (w.heap.size + 1) o (by first | omega | (simp only [sz_alloc, sz_set, sz_drew, sz_drewN, sz_iterAt, sz_iter] at *; omega) | (simp; done) | (simp; omega) | (simp at *; omega))
  clear hc1 hf1
  by_cases hle : (shU s n).1 ≤ 999999999999
  · have hd : decide ((999999999999 : Int) < ((shU s n).1 : Int)) = false := by simp; omega
    have hfin : ∀ b, decRes b n s = .tuple #[.agg #[.int .i64 (sgn b (shU s n).1), .int .i64 (shU s n).2], .int .i64 0] := fun b => if_pos hle
    have HF := Lib.hid hfin
    clear hfin
    cases b
    · go_wp2_with fail
      refine bodyPost_ret (v := .tuple #[.agg #[.int .i64 (shU s n).1, .int .i64 (shU s n).2], .int .i64 0]) ?_ rfl ⟨HF.out _ ▸ rfl, ?_⟩
      · simp [results, Tryz.results82, go_sem, *]
      · exact (by repeat' (first | (with_reducible exact Below.refl _ _) | (with_reducible assumption) | (with_reducible refine Below.drew ?_) | (with_reducible refine below_drewN ?_ _) | (with_reducible refine below_iterAt ?_ ?_ _ _) | (with_reducible refine below_iter ?_ ?_ _ _) | (with_reducible refine Below.alloc ?_ ?_ _) | (with_reducible refine Below.setCell ?_ ?_ _) | (with_reducible refine Below.trans ?_ (Below.mono (by assumption) ?_)) | (simp only [sz_alloc, sz_set, sz_drew, sz_drewN, sz_iterAt, sz_iter] at *; omega) | omega | (simp; done) | (simp; omega) | (apply Below.size; assumption) | (simp only [sz_drew, sz_drewN]; apply Below.size; assumption) | (refine Nat.le_trans ?_ (Below.size (by assumption)))))
    · go_wp2_with fail
      refine bodyPost_ret (v := .tuple #[.agg #[.int .i64 (-(shU s n).1), .int .i64 (shU s n).2], .int .i64 0]) ?_ rfl ⟨HF.out _ ▸ rfl, ?_⟩
      · simp [results, Tryz.results82, go_sem, *]
      · exact (by repeat' (first | (with_reducible exact Below.refl _ _) | (with_reducible assumption) | (with_reducible refine Below.drew ?_) | (with_reducible refine below_drewN ?_ _) | (with_reducible refine below_iterAt ?_ ?_ _ _) | (with_reducible refine below_iter ?_ ?_ _ _) | (with_reducible refine Below.alloc ?_ ?_ _) | (with_reducible refine Below.setCell ?_ ?_ _) | (with_reducible refine Below.trans ?_ (Below.mono (by assumption) ?_)) | (simp only [sz_alloc, sz_set, sz_drew, sz_drewN, sz_iterAt, sz_iter] at *; omega) | omega | (simp; done) | (simp; omega) | (apply Below.size; assumption) | (simp only [sz_drew, sz_drewN]; apply Below.size; assumption) | (refine Nat.le_trans ?_ (Below.size (by assumption)))))
  · have hd : decide ((999999999999 : Int) < ((shU s n).1 : Int)) = true := by simp; omega
    have hfin : decRes b n s = .tuple #[.agg #[.int .i64 0, .int .i64 0], .int .i64 3] := if_neg hle
    have HF := Lib.hid hfin
    clear hfin
    go_wp2_with fail
    refine bodyPost_ret (v := .tuple #[.agg #[.int .i64 0, .int .i64 0], .int .i64 3]) ?_ rfl ⟨HF.out ▸ rfl, ?_⟩
    · simp [results, Tryz.results82, go_sem, *]
    · exact (by repeat' (first | (with_reducible exact Below.refl _ _) | (with_reducible assumption) | (with_reducible refine Below.drew ?_) | (with_reducible refine below_drewN ?_ _) | (with_reducible refine below_iterAt ?_ ?_ _ _) | (with_reducible refine below_iter ?_ ?_ _ _) | (with_reducible refine Below.alloc ?_ ?_ _) | (with_reducible refine Below.setCell ?_ ?_ _) | (with_reducible refine Below.trans ?_ (Below.mono (by assumption) ?_)) | (simp only [sz_alloc, sz_set, sz_drew, sz_drewN, sz_iterAt, sz_iter] at *; omega) | omega | (simp; done) | (simp; omega) | (apply Below.size; assumption) | (simp only [sz_drew, sz_drewN]; apply Below.size; assumption) | (refine Nat.le_trans ?_ (Below.size (by assumption)))))

/-- what Make hands back -/
def makeRes (n s : Int) : Value := if decIn n s = true then .tuple #[.agg #[.int .i64 (mkN n s), .int .i64 (mkS n s)], .int .i64 0] else .tuple #[.agg #[.int .i64 0, .int .i64 0], .int .i64 3]
theorem makeRes_no {n s : Int} (h : decIn n s = false) : makeRes n s = .tuple #[.agg #[.int .i64 0, .int .i64 0], .int .i64 3] := by unfold makeRes; rw [h]; rfl
theorem makeRes_yes {n s : Int} (h : decIn n s = true) : makeRes n s = .tuple #[.agg #[.int .i64 (mkN n s), .int .i64 (mkS n s)], .int .i64 0] := if_pos h
theorem decRes_mk {n s : Int} (h : decIn n s = true) : decRes (decide (n < 0)) n.natAbs s.toNat = makeRes n s := by
  rw [makeRes_yes h]
  have := (shU_le s.toNat n.natAbs).1
  have := decIn_of h
  exact if_pos (by omega)

set_option maxHeartbeats 800000 in
theorem make_any (n s : Int) (w : World) (hn1 : -9223372036854775808 ≤ n) (hn2 : n ≤ 9223372036854775807) (hs1 : -9223372036854775808 ≤ s) (hs2 : s ≤ 9223372036854775807) :
    Calls Tryz.prog 56 #[.int .i64 n, .int .i64 s] w fun e w' => e = .returned (makeRes n s) ∧ Below w.heap.size w w' := by
  by_cases h : decIn n s = true
  · obtain ⟨h1, h2, h3, h4⟩ := decIn_of h
    by_cases hneg : n < 0
    · obtain ⟨m, rfl⟩ : ∃ m : Nat, n = -(m : Int) := ⟨n.natAbs, by omega⟩
      obtain ⟨t, rfl⟩ : ∃ t : Nat, s = (t : Int) := ⟨s.toNat, by omega⟩
      have hm : m ≤ 999999999999 := by omega
      have ht : t ≤ 6 := by omega
      have HG : Hid (decRes true m t = .tuple #[.agg #[.int .i64 (sgn true (shU t m).1), .int .i64 (shU t m).2], .int .i64 0]) := by
        have := (shU_le t m).1
        exact if_pos (by omega)
      have HF : Hid (makeRes (-(m : Int)) t = .tuple #[.agg #[.int .i64 (sgn true (shU t m).1), .int .i64 (shU t m).2], .int .i64 0]) := by
        have := decRes_mk h
        rw [Int.natAbs_neg, Int.natAbs_natCast, Int.toNat_natCast, decide_eq_true hneg] at this
        exact this.symm.trans HG.out
      have e1 : decide ((t : Int) < 0) = false := by simp
      have e2 : decide (6 < (t : Int)) = false := by simp; omega
      have e4 : decide (999999999999 < (m : Int)) = false := by simp; omega
      have e5 : decide (0 < m) = true := by simp; omega
      have e6 : (0 : Int) < m := by omega
      clear h hneg h1 h2 h3 h4 hs1 hs2 hn1 hn2
      generalize (shU t m).1 = a at *
      generalize (shU t m).2 = c at *
      go_enter Tryz.func56, Tryz.ntmps56
      go_wp2_with fail
      try rw [show max (-(m : Int)) (m : Int) = (m : Int) by omega]
      refine (dec_any m t true (by omega) ht _).mono ?_
      rintro e w1 ⟨rfl, hb1⟩
      rw [HG.out]
      obtain ⟨hc1, hf1⟩ := bcell hb1
      have hz1 := hb1.size
      try simp at hz1
      have q1_0 := fun o => hc1 (w.heap.size) o (by first | omega | (simp only [sz_alloc, sz_set, sz_drew, sz_drewN, sz_iterAt, sz_iter] at *; omega) | (simp; done) | (simp; omega) | (simp at *; omega))
      have l1_0 : w.heap.size < w1.heap.size := by omega
      have r1_0 := fun o => hf1 (w.heap.size) o (by first | omega | (simp only [sz_alloc, sz_set, sz_drew, sz_drewN, sz_iterAt, sz_iter] at *; omega) | (simp; done) | (simp; omega) | (simp at *; omega))
      clear hc1 hf1
      go_wp2_with fail
      refine bodyPost_ret (v := .tuple #[.agg #[.int .i64 (sgn true a), .int .i64 c], .int .i64 0]) (by simp [results, Tryz.results56, go_sem, *]) rfl ⟨?_, (by repeat' (first | (with_reducible exact Below.refl _ _) | (with_reducible assumption) | (with_reducible refine Below.drew ?_) | (with_reducible refine below_drewN ?_ _) | (with_reducible refine below_iterAt ?_ ?_ _ _) | (with_reducible refine below_iter ?_ ?_ _ _) | (with_reducible refine Below.alloc ?_ ?_ _) | (with_reducible refine Below.setCell ?_ ?_ _) | (with_reducible refine Below.trans ?_ (Below.mono (by assumption) ?_)) | (simp only [sz_alloc, sz_set, sz_drew, sz_drewN, sz_iterAt, sz_iter] at *; omega) | omega | (simp; done) | (simp; omega) | (apply Below.size; assumption) | (simp only [sz_drew, sz_drewN]; apply Below.size; assumption) | (refine Nat.le_trans ?_ (Below.size (by assumption)))))⟩
      rw [HF.out]
    · obtain ⟨m, rfl⟩ : ∃ m : Nat, n = (m : Int) := ⟨n.natAbs, by omega⟩
      obtain ⟨t, rfl⟩ : ∃ t : Nat, s = (t : Int) := ⟨s.toNat, by omega⟩
      have hm : m ≤ 999999999999 := by omega
      have ht : t ≤ 6 := by omega
      have HG : Hid (decRes false m t = .tuple #[.agg #[.int .i64 (sgn false (shU t m).1), .int .i64 (shU t m).2], .int .i64 0]) := by
        have := (shU_le t m).1
        exact if_pos (by omega)
      have HF : Hid (makeRes ((m : Int)) t = .tuple #[.agg #[.int .i64 (sgn false (shU t m).1), .int .i64 (shU t m).2], .int .i64 0]) := by
        have := decRes_mk h
        rw [Int.natAbs_natCast, Int.toNat_natCast, decide_eq_false hneg] at this
        exact this.symm.trans HG.out
      have e1 : decide ((t : Int) < 0) = false := by simp
      have e2 : decide (6 < (t : Int)) = false := by simp; omega
      have e4 : decide (999999999999 < (m : Int)) = false := by simp; omega
      have e5 : -(m : Int) ≤ m := by omega
      clear h hneg h1 h2 h3 h4 hs1 hs2 hn1 hn2
      generalize (shU t m).1 = a at *
      generalize (shU t m).2 = c at *
      go_enter Tryz.func56, Tryz.ntmps56
      go_wp2_with fail
      try rw [show max (m : Int) (-(m : Int)) = (m : Int) by omega]
      refine (dec_any m t false (by omega) ht _).mono ?_
      rintro e w1 ⟨rfl, hb1⟩
      rw [HG.out]
      obtain ⟨hc1, hf1⟩ := bcell hb1
      have hz1 := hb1.size
      try simp at hz1
      have q1_0 := fun o => hc1 (w.heap.size) o (by first | omega | (simp only [sz_alloc, sz_set, sz_drew, sz_drewN, sz_iterAt, sz_iter] at *; omega) | (simp; done) | (simp; omega) | (simp at *; omega))
      have l1_0 : w.heap.size < w1.heap.size := by omega
      have r1_0 := fun o => hf1 (w.heap.size) o (by first | omega | (simp only [sz_alloc, sz_set, sz_drew, sz_drewN, sz_iterAt, sz_iter] at *; omega) | (simp; done) | (simp; omega) | (simp at *; omega))
      clear hc1 hf1
      go_wp2_with fail
      refine bodyPost_ret (v := .tuple #[.agg #[.int .i64 (sgn false a), .int .i64 c], .int .i64 0]) (by simp [results, Tryz.results56, go_sem, *]) rfl ⟨?_, (by repeat' (first | (with_reducible exact Below.refl _ _) | (with_reducible assumption) | (with_reducible refine Below.drew ?_) | (with_reducible refine below_drewN ?_ _) | (with_reducible refine below_iterAt ?_ ?_ _ _) | (with_reducible refine below_iter ?_ ?_ _ _) | (with_reducible refine Below.alloc ?_ ?_ _) | (with_reducible refine Below.setCell ?_ ?_ _) | (with_reducible refine Below.trans ?_ (Below.mono (by assumption) ?_)) | (simp only [sz_alloc, sz_set, sz_drew, sz_drewN, sz_iterAt, sz_iter] at *; omega) | omega | (simp; done) | (simp; omega) | (apply Below.size; assumption) | (simp only [sz_drew, sz_drewN]; apply Below.size; assumption) | (refine Nat.le_trans ?_ (Below.size (by assumption)))))⟩
      rw [HF.out]
  · have h' : decIn n s = false := by simpa using h
    have HF := Lib.hid (makeRes_no h')
    have h0 : s < 0 ∨ (0 ≤ s ∧ 6 < s) ∨ (0 ≤ s ∧ s ≤ 6 ∧ 999999999999 < n) ∨ (0 ≤ s ∧ s ≤ 6 ∧ n ≤ 999999999999 ∧ n < -999999999999) := by
      simp [decIn] at h'; omega
    clear h h'
    rcases h0 with a | ⟨a, b⟩ | ⟨a, b, c⟩ | ⟨a, b, c, d⟩
    · have e1 : decide (s < 0) = true := by simp; omega
      go_enter Tryz.func56, Tryz.ntmps56
      go_wp2_with fail
      refine bodyPost_ret (v := .tuple #[.agg #[.int .i64 0, .int .i64 0], .int .i64 3]) (by simp [results, Tryz.results56, go_sem, *]) rfl ⟨?_, (by repeat' (first | (with_reducible exact Below.refl _ _) | (with_reducible assumption) | (with_reducible refine Below.drew ?_) | (with_reducible refine below_drewN ?_ _) | (with_reducible refine below_iterAt ?_ ?_ _ _) | (with_reducible refine below_iter ?_ ?_ _ _) | (with_reducible refine Below.alloc ?_ ?_ _) | (with_reducible refine Below.setCell ?_ ?_ _) | (with_reducible refine Below.trans ?_ (Below.mono (by assumption) ?_)) | (simp only [sz_alloc, sz_set, sz_drew, sz_drewN, sz_iterAt, sz_iter] at *; omega) | omega | (simp; done) | (simp; omega) | (apply Below.size; assumption) | (simp only [sz_drew, sz_drewN]; apply Below.size; assumption) | (refine Nat.le_trans ?_ (Below.size (by assumption)))))⟩
      rw [HF.out]
    · have e1 : decide (s < 0) = false := by simp; omega
      have e2 : decide (6 < s) = true := by simp; omega
      go_enter Tryz.func56, Tryz.ntmps56
      go_wp2_with fail
      refine bodyPost_ret (v := .tuple #[.agg #[.int .i64 0, .int .i64 0], .int .i64 3]) (by simp [results, Tryz.results56, go_sem, *]) rfl ⟨?_, (by repeat' (first | (with_reducible exact Below.refl _ _) | (with_reducible assumption) | (with_reducible refine Below.drew ?_) | (with_reducible refine below_drewN ?_ _) | (with_reducible refine below_iterAt ?_ ?_ _ _) | (with_reducible refine below_iter ?_ ?_ _ _) | (with_reducible refine Below.alloc ?_ ?_ _) | (with_reducible refine Below.setCell ?_ ?_ _) | (with_reducible refine Below.trans ?_ (Below.mono (by assumption) ?_)) | (simp only [sz_alloc, sz_set, sz_drew, sz_drewN, sz_iterAt, sz_iter] at *; omega) | omega | (simp; done) | (simp; omega) | (apply Below.size; assumption) | (simp only [sz_drew, sz_drewN]; apply Below.size; assumption) | (refine Nat.le_trans ?_ (Below.size (by assumption)))))⟩
      rw [HF.out]
    · have e1 : decide (s < 0) = false := by simp; omega
      have e2 : decide (6 < s) = false := by simp; omega
      have e3 : decide (999999999999 < n) = true := by simp; omega
      go_enter Tryz.func56, Tryz.ntmps56
      go_wp2_with fail
      refine bodyPost_ret (v := .tuple #[.agg #[.int .i64 0, .int .i64 0], .int .i64 3]) (by simp [results, Tryz.results56, go_sem, *]) rfl ⟨?_, (by repeat' (first | (with_reducible exact Below.refl _ _) | (with_reducible assumption) | (with_reducible refine Below.drew ?_) | (with_reducible refine below_drewN ?_ _) | (with_reducible refine below_iterAt ?_ ?_ _ _) | (with_reducible refine below_iter ?_ ?_ _ _) | (with_reducible refine Below.alloc ?_ ?_ _) | (with_reducible refine Below.setCell ?_ ?_ _) | (with_reducible refine Below.trans ?_ (Below.mono (by assumption) ?_)) | (simp only [sz_alloc, sz_set, sz_drew, sz_drewN, sz_iterAt, sz_iter] at *; omega) | omega | (simp; done) | (simp; omega) | (apply Below.size; assumption) | (simp only [sz_drew, sz_drewN]; apply Below.size; assumption) | (refine Nat.le_trans ?_ (Below.size (by assumption)))))⟩
      rw [HF.out]
    · have e1 : decide (s < 0) = false := by simp; omega
      have e2 : decide (6 < s) = false := by simp; omega
      have e3 : decide (999999999999 < n) = false := by simp; omega
      have e4 : decide (n < -999999999999) = true := by simp; omega
      go_enter Tryz.func56, Tryz.ntmps56
      go_wp2_with fail
      refine bodyPost_ret (v := .tuple #[.agg #[.int .i64 0, .int .i64 0], .int .i64 3]) (by simp [results, Tryz.results56, go_sem, *]) rfl ⟨?_, (by repeat' (first | (with_reducible exact Below.refl _ _) | (with_reducible assumption) | (with_reducible refine Below.drew ?_) | (with_reducible refine below_drewN ?_ _) | (with_reducible refine below_iterAt ?_ ?_ _ _) | (with_reducible refine below_iter ?_ ?_ _ _) | (with_reducible refine Below.alloc ?_ ?_ _) | (with_reducible refine Below.setCell ?_ ?_ _) | (with_reducible refine Below.trans ?_ (Below.mono (by assumption) ?_)) | (simp only [sz_alloc, sz_set, sz_drew, sz_drewN, sz_iterAt, sz_iter] at *; omega) | omega | (simp; done) | (simp; omega) | (apply Below.size; assumption) | (simp only [sz_drew, sz_drewN]; apply Below.size; assumption) | (refine Nat.le_trans ?_ (Below.size (by assumption)))))⟩
      rw [HF.out]
end Go.Proofs.YthicilfhnakhmaaGreatDoor
