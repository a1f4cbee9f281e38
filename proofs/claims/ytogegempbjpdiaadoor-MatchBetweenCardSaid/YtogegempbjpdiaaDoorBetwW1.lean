/- soffitlaw12.MatchBetween, walked: the sound, ends false false. -/
import Derived.Test.YtogegempbjpdiaaDoorTurned
import Derived.Test.YtogegempbjpdiaaDoorRUSound
set_option linter.unusedSimpArgs false
set_option linter.unusedVariables false
namespace Go.Proofs.YtogegempbjpdiaaDoor
open Go.RowKit

set_option maxRecDepth 100000 in
set_option maxHeartbeats 6400000 in
theorem between_yes1 (lo hi v : Vl) (w : World) (hl : lo.wf) (hh : hi.wf) (hv : v.wf) (hE : Env w)
    (su : uOneB ⟨6, lo, hi, false, false⟩ = true) (sv : sndB v = true) (q a b : Bool) (r0 : oneRes ⟨6, lo, hi, false, false⟩ v = .tuple #[.bool q, .int .i64 0]) (r1 : oneRes (tLeast lo) v = .tuple #[.bool a, .int .i64 0]) (r2 : oneRes (tMost hi) v = .tuple #[.bool b, .int .i64 0]) (hq : q = (a && b)) :
    Calls Tryd.prog 7 #[.agg #[.int .i64 lo.k, .int .i64 lo.n, .int .i64 lo.s, .string lo.t, .int .i64 lo.i], .agg #[.int .i64 hi.k, .int .i64 hi.n, .int .i64 hi.s, .string hi.t, .int .i64 hi.i], .agg #[.int .i64 v.k, .int .i64 v.n, .int .i64 v.s, .string v.t, .int .i64 v.i], .bool false, .bool false] w fun e w' =>
      e = .returned (.bool true) ∧ Below w.heap.size w w' := by
  have ht : (⟨6, lo, hi, false, false⟩ : Tst).wf := ⟨⟨by show -9223372036854775808 ≤ (6 : Int); omega, by show (6 : Int) ≤ 9223372036854775807; omega⟩, hl, hh⟩
  have hwf : ∀ x ∈ (celOne ⟨6, lo, hi, false, false⟩).ts, x.wf := by intro x hx; have e : x = ⟨6, lo, hi, false, false⟩ := (by simpa [celOne] using hx); rw [e]; exact ht
  go_enter Tryd.func7, Tryd.ntmps7
  go_wp2_with fail
  generalize hEW0 : ((((w.alloc _).alloc _).alloc _).alloc _) = W0
  have hbW0 : Below w.heap.size w W0 := (by rw [← hEW0]; exact (by repeat' (first | (with_reducible exact Below.refl _ _) | (with_reducible assumption) | (with_reducible refine Below.drew ?_) | (with_reducible refine below_drewN ?_ _) | (with_reducible refine below_iterAt ?_ ?_ _ _) | (with_reducible refine below_iter ?_ ?_ _ _) | (with_reducible refine Below.alloc ?_ ?_ _) | (with_reducible refine Below.setCell ?_ ?_ _) | (with_reducible refine Below.trans ?_ (Below.mono (by assumption) ?_)) | (simp only [sz_alloc, sz_set, sz_drew, sz_drewN, sz_iterAt, sz_iter] at *; omega) | omega | (simp; done) | (simp; omega) | (apply Below.size; assumption) | (simp only [sz_drew, sz_drewN]; apply Below.size; assumption) | (refine Nat.le_trans ?_ (Below.size (by assumption))))))
  have lW0_0 : w.heap.size < W0.heap.size := (by rw [← hEW0]; first | omega | (simp only [sz_alloc, sz_set, sz_drew, sz_drewN, sz_iterAt, sz_iter] at *; omega) | (simp; done) | (simp; omega) | (simp at *; omega))
  have qW0_0 : ∀ o, W0.cell? ⟨w.heap.size, o, none⟩ = _ := fun o => congrArg (fun W : World => W.cell? ⟨w.heap.size, o, none⟩) hEW0.symm
  have rW0_0 : ∀ o, W0.frozen? ⟨w.heap.size, o, none⟩ = _ := fun o => congrArg (fun W : World => W.frozen? ⟨w.heap.size, o, none⟩) hEW0.symm
  have lW0_1 : w.heap.size + 1 < W0.heap.size := (by rw [← hEW0]; first | omega | (simp only [sz_alloc, sz_set, sz_drew, sz_drewN, sz_iterAt, sz_iter] at *; omega) | (simp; done) | (simp; omega) | (simp at *; omega))
  have qW0_1 : ∀ o, W0.cell? ⟨w.heap.size + 1, o, none⟩ = _ := fun o => congrArg (fun W : World => W.cell? ⟨w.heap.size + 1, o, none⟩) hEW0.symm
  have rW0_1 : ∀ o, W0.frozen? ⟨w.heap.size + 1, o, none⟩ = _ := fun o => congrArg (fun W : World => W.frozen? ⟨w.heap.size + 1, o, none⟩) hEW0.symm
  have lW0_2 : w.heap.size + 2 < W0.heap.size := (by rw [← hEW0]; first | omega | (simp only [sz_alloc, sz_set, sz_drew, sz_drewN, sz_iterAt, sz_iter] at *; omega) | (simp; done) | (simp; omega) | (simp at *; omega))
  have qW0_2 : ∀ o, W0.cell? ⟨w.heap.size + 2, o, none⟩ = _ := fun o => congrArg (fun W : World => W.cell? ⟨w.heap.size + 2, o, none⟩) hEW0.symm
  have rW0_2 : ∀ o, W0.frozen? ⟨w.heap.size + 2, o, none⟩ = _ := fun o => congrArg (fun W : World => W.frozen? ⟨w.heap.size + 2, o, none⟩) hEW0.symm
  have lW0_3 : w.heap.size + 3 < W0.heap.size := (by rw [← hEW0]; first | omega | (simp only [sz_alloc, sz_set, sz_drew, sz_drewN, sz_iterAt, sz_iter] at *; omega) | (simp; done) | (simp; omega) | (simp at *; omega))
  have qW0_3 : ∀ o, W0.cell? ⟨w.heap.size + 3, o, none⟩ = _ := fun o => congrArg (fun W : World => W.cell? ⟨w.heap.size + 3, o, none⟩) hEW0.symm
  have rW0_3 : ∀ o, W0.frozen? ⟨w.heap.size + 3, o, none⟩ = _ := fun o => congrArg (fun W : World => W.frozen? ⟨w.heap.size + 3, o, none⟩) hEW0.symm
  clear hEW0
  refine (matchOne_any ⟨6, lo, hi, false, false⟩ v _ ht hv (hE.below hbW0)).mono ?_
  rintro e w1 ⟨rfl, hb1⟩
  rw [r0]
  clear r0
  obtain ⟨hc1, hf1⟩ := bcell hb1
  have hz1 := hb1.size
  try simp at hz1
  have q1_0 := fun o => hc1 (w.heap.size) o (by first | omega | (simp only [sz_alloc, sz_set, sz_drew, sz_drewN, sz_iterAt, sz_iter] at *; omega) | (simp; done) | (simp; omega) | (simp at *; omega))
  have l1_0 : w.heap.size < w1.heap.size := by omega
  have r1_0 := fun o => hf1 (w.heap.size) o (by first | omega | (simp only [sz_alloc, sz_set, sz_drew, sz_drewN, sz_iterAt, sz_iter] at *; omega) | (simp; done) | (simp; omega) | (simp at *; omega))
  have q1_1 := fun o => hc1 (w.heap.size + 1) o (by first | omega | (simp only [sz_alloc, sz_set, sz_drew, sz_drewN, sz_iterAt, sz_iter] at *; omega) | (simp; done) | (simp; omega) | (simp at *; omega))
  have l1_1 : w.heap.size + 1 < w1.heap.size := by omega
  have r1_1 := fun o => hf1 (w.heap.size + 1) o (by first | omega | (simp only [sz_alloc, sz_set, sz_drew, sz_drewN, sz_iterAt, sz_iter] at *; omega) | (simp; done) | (simp; omega) | (simp at *; omega))
  have q1_2 := fun o => hc1 (w.heap.size + 2) o (by first | omega | (simp only [sz_alloc, sz_set, sz_drew, sz_drewN, sz_iterAt, sz_iter] at *; omega) | (simp; done) | (simp; omega) | (simp at *; omega))
  have l1_2 : w.heap.size + 2 < w1.heap.size := by omega
  have r1_2 := fun o => hf1 (w.heap.size + 2) o (by first | omega | (simp only [sz_alloc, sz_set, sz_drew, sz_drewN, sz_iterAt, sz_iter] at *; omega) | (simp; done) | (simp; omega) | (simp at *; omega))
  have q1_3 := fun o => hc1 (w.heap.size + 3) o (by first | omega | (simp only [sz_alloc, sz_set, sz_drew, sz_drewN, sz_iterAt, sz_iter] at *; omega) | (simp; done) | (simp; omega) | (simp at *; omega))
  have l1_3 : w.heap.size + 3 < w1.heap.size := by omega
  have r1_3 := fun o => hf1 (w.heap.size + 3) o (by first | omega | (simp only [sz_alloc, sz_set, sz_drew, sz_drewN, sz_iterAt, sz_iter] at *; omega) | (simp; done) | (simp; omega) | (simp at *; omega))
  clear hc1 hf1
  go_wp2_with fail
  refine (awake_any _ (hE.below (by repeat' (first | (with_reducible exact Below.refl _ _) | (with_reducible assumption) | (with_reducible refine Below.drew ?_) | (with_reducible refine below_drewN ?_ _) | (with_reducible refine below_iterAt ?_ ?_ _ _) | (with_reducible refine below_iter ?_ ?_ _ _) | (with_reducible refine Below.alloc ?_ ?_ _) | (with_reducible refine Below.setCell ?_ ?_ _) | (with_reducible refine Below.trans ?_ (Below.mono (by assumption) ?_)) | (simp only [sz_alloc, sz_set, sz_drew, sz_drewN, sz_iterAt, sz_iter] at *; omega) | omega | (simp; done) | (simp; omega) | (apply Below.size; assumption) | (simp only [sz_drew, sz_drewN]; apply Below.size; assumption) | (refine Nat.le_trans ?_ (Below.size (by assumption))))))).mono ?_
  rintro e w2 ⟨rfl, hb2⟩
  obtain ⟨hc2, hf2⟩ := bcell hb2
  have hz2 := hb2.size
  try simp at hz2
  have q2_0 := fun o => hc2 (w.heap.size) o (by first | omega | (simp only [sz_alloc, sz_set, sz_drew, sz_drewN, sz_iterAt, sz_iter] at *; omega) | (simp; done) | (simp; omega) | (simp at *; omega))
  have l2_0 : w.heap.size < w2.heap.size := by omega
  have r2_0 := fun o => hf2 (w.heap.size) o (by first | omega | (simp only [sz_alloc, sz_set, sz_drew, sz_drewN, sz_iterAt, sz_iter] at *; omega) | (simp; done) | (simp; omega) | (simp at *; omega))
  have q2_1 := fun o => hc2 (w.heap.size + 1) o (by first | omega | (simp only [sz_alloc, sz_set, sz_drew, sz_drewN, sz_iterAt, sz_iter] at *; omega) | (simp; done) | (simp; omega) | (simp at *; omega))
  have l2_1 : w.heap.size + 1 < w2.heap.size := by omega
  have r2_1 := fun o => hf2 (w.heap.size + 1) o (by first | omega | (simp only [sz_alloc, sz_set, sz_drew, sz_drewN, sz_iterAt, sz_iter] at *; omega) | (simp; done) | (simp; omega) | (simp at *; omega))
  have q2_2 := fun o => hc2 (w.heap.size + 2) o (by first | omega | (simp only [sz_alloc, sz_set, sz_drew, sz_drewN, sz_iterAt, sz_iter] at *; omega) | (simp; done) | (simp; omega) | (simp at *; omega))
  have l2_2 : w.heap.size + 2 < w2.heap.size := by omega
  have r2_2 := fun o => hf2 (w.heap.size + 2) o (by first | omega | (simp only [sz_alloc, sz_set, sz_drew, sz_drewN, sz_iterAt, sz_iter] at *; omega) | (simp; done) | (simp; omega) | (simp at *; omega))
  have q2_3 := fun o => hc2 (w.heap.size + 3) o (by first | omega | (simp only [sz_alloc, sz_set, sz_drew, sz_drewN, sz_iterAt, sz_iter] at *; omega) | (simp; done) | (simp; omega) | (simp at *; omega))
  have l2_3 : w.heap.size + 3 < w2.heap.size := by omega
  have r2_3 := fun o => hf2 (w.heap.size + 3) o (by first | omega | (simp only [sz_alloc, sz_set, sz_drew, sz_drewN, sz_iterAt, sz_iter] at *; omega) | (simp; done) | (simp; omega) | (simp at *; omega))
  clear hc2 hf2
  go_wp2_with fail
  generalize hEW3 : w2.alloc _ = W3
  have hbW3 : Below w.heap.size w W3 := (by rw [← hEW3]; exact (by repeat' (first | (with_reducible exact Below.refl _ _) | (with_reducible assumption) | (with_reducible refine Below.drew ?_) | (with_reducible refine below_drewN ?_ _) | (with_reducible refine below_iterAt ?_ ?_ _ _) | (with_reducible refine below_iter ?_ ?_ _ _) | (with_reducible refine Below.alloc ?_ ?_ _) | (with_reducible refine Below.setCell ?_ ?_ _) | (with_reducible refine Below.trans ?_ (Below.mono (by assumption) ?_)) | (simp only [sz_alloc, sz_set, sz_drew, sz_drewN, sz_iterAt, sz_iter] at *; omega) | omega | (simp; done) | (simp; omega) | (apply Below.size; assumption) | (simp only [sz_drew, sz_drewN]; apply Below.size; assumption) | (refine Nat.le_trans ?_ (Below.size (by assumption))))))
  have lW3_0 : w.heap.size < W3.heap.size := (by rw [← hEW3]; first | omega | (simp only [sz_alloc, sz_set, sz_drew, sz_drewN, sz_iterAt, sz_iter] at *; omega) | (simp; done) | (simp; omega) | (simp at *; omega))
  have qW3_0 : ∀ o, W3.cell? ⟨w.heap.size, o, none⟩ = _ := fun o => congrArg (fun W : World => W.cell? ⟨w.heap.size, o, none⟩) hEW3.symm
  have rW3_0 : ∀ o, W3.frozen? ⟨w.heap.size, o, none⟩ = _ := fun o => congrArg (fun W : World => W.frozen? ⟨w.heap.size, o, none⟩) hEW3.symm
  have lW3_1 : w.heap.size + 1 < W3.heap.size := (by rw [← hEW3]; first | omega | (simp only [sz_alloc, sz_set, sz_drew, sz_drewN, sz_iterAt, sz_iter] at *; omega) | (simp; done) | (simp; omega) | (simp at *; omega))
  have qW3_1 : ∀ o, W3.cell? ⟨w.heap.size + 1, o, none⟩ = _ := fun o => congrArg (fun W : World => W.cell? ⟨w.heap.size + 1, o, none⟩) hEW3.symm
  have rW3_1 : ∀ o, W3.frozen? ⟨w.heap.size + 1, o, none⟩ = _ := fun o => congrArg (fun W : World => W.frozen? ⟨w.heap.size + 1, o, none⟩) hEW3.symm
  have lW3_2 : w.heap.size + 2 < W3.heap.size := (by rw [← hEW3]; first | omega | (simp only [sz_alloc, sz_set, sz_drew, sz_drewN, sz_iterAt, sz_iter] at *; omega) | (simp; done) | (simp; omega) | (simp at *; omega))
  have qW3_2 : ∀ o, W3.cell? ⟨w.heap.size + 2, o, none⟩ = _ := fun o => congrArg (fun W : World => W.cell? ⟨w.heap.size + 2, o, none⟩) hEW3.symm
  have rW3_2 : ∀ o, W3.frozen? ⟨w.heap.size + 2, o, none⟩ = _ := fun o => congrArg (fun W : World => W.frozen? ⟨w.heap.size + 2, o, none⟩) hEW3.symm
  have lW3_3 : w.heap.size + 3 < W3.heap.size := (by rw [← hEW3]; first | omega | (simp only [sz_alloc, sz_set, sz_drew, sz_drewN, sz_iterAt, sz_iter] at *; omega) | (simp; done) | (simp; omega) | (simp at *; omega))
  have qW3_3 : ∀ o, W3.cell? ⟨w.heap.size + 3, o, none⟩ = _ := fun o => congrArg (fun W : World => W.cell? ⟨w.heap.size + 3, o, none⟩) hEW3.symm
  have rW3_3 : ∀ o, W3.frozen? ⟨w.heap.size + 3, o, none⟩ = _ := fun o => congrArg (fun W : World => W.frozen? ⟨w.heap.size + 3, o, none⟩) hEW3.symm
  have lW3_4 : w2.heap.size < W3.heap.size := (by rw [← hEW3]; first | omega | (simp only [sz_alloc, sz_set, sz_drew, sz_drewN, sz_iterAt, sz_iter] at *; omega) | (simp; done) | (simp; omega) | (simp at *; omega))
  have qW3_4 : ∀ o, W3.cell? ⟨w2.heap.size, o, none⟩ = _ := fun o => congrArg (fun W : World => W.cell? ⟨w2.heap.size, o, none⟩) hEW3.symm
  have rW3_4 : ∀ o, W3.frozen? ⟨w2.heap.size, o, none⟩ = _ := fun o => congrArg (fun W : World => W.frozen? ⟨w2.heap.size, o, none⟩) hEW3.symm
  clear hEW3
  have t0 : ∀ o, W3.cell? ⟨w2.heap.size, o, none⟩ = (⟨6, lo, hi, false, false⟩ : Tst).cells.toArray[o]? := by intro o; rw [qW3_4 o]; simp [go_sem]; rfl
  have rd : RdL W3 13 (some ⟨w2.heap.size, 0, none⟩) ((celOne ⟨6, lo, hi, false, false⟩).ts.map Tst.cells) := rdL_one t0
  clear t0
  refine (rUSound_any (celOne ⟨6, lo, hi, false, false⟩) _ 1 _ rd hwf (by show (1 : Nat) ≤ 9223372036854775807; omega)).mono ?_
  rintro e w3 ⟨rfl, hb3⟩
  rw [uSndB_one, su]
  clear su rd
  obtain ⟨hc3, hf3⟩ := bcell hb3
  have hz3 := hb3.size
  try simp at hz3
  have q3_0 := fun o => hc3 (w.heap.size) o (by first | omega | (simp only [sz_alloc, sz_set, sz_drew, sz_drewN, sz_iterAt, sz_iter] at *; omega) | (simp; done) | (simp; omega) | (simp at *; omega))
  have l3_0 : w.heap.size < w3.heap.size := by omega
  have r3_0 := fun o => hf3 (w.heap.size) o (by first | omega | (simp only [sz_alloc, sz_set, sz_drew, sz_drewN, sz_iterAt, sz_iter] at *; omega) | (simp; done) | (simp; omega) | (simp at *; omega))
  have q3_1 := fun o => hc3 (w.heap.size + 1) o (by first | omega | (simp only [sz_alloc, sz_set, sz_drew, sz_drewN, sz_iterAt, sz_iter] at *; omega) | (simp; done) | (simp; omega) | (simp at *; omega))
  have l3_1 : w.heap.size + 1 < w3.heap.size := by omega
  have r3_1 := fun o => hf3 (w.heap.size + 1) o (by first | omega | (simp only [sz_alloc, sz_set, sz_drew, sz_drewN, sz_iterAt, sz_iter] at *; omega) | (simp; done) | (simp; omega) | (simp at *; omega))
  have q3_2 := fun o => hc3 (w.heap.size + 2) o (by first | omega | (simp only [sz_alloc, sz_set, sz_drew, sz_drewN, sz_iterAt, sz_iter] at *; omega) | (simp; done) | (simp; omega) | (simp at *; omega))
  have l3_2 : w.heap.size + 2 < w3.heap.size := by omega
  have r3_2 := fun o => hf3 (w.heap.size + 2) o (by first | omega | (simp only [sz_alloc, sz_set, sz_drew, sz_drewN, sz_iterAt, sz_iter] at *; omega) | (simp; done) | (simp; omega) | (simp at *; omega))
  have q3_3 := fun o => hc3 (w.heap.size + 3) o (by first | omega | (simp only [sz_alloc, sz_set, sz_drew, sz_drewN, sz_iterAt, sz_iter] at *; omega) | (simp; done) | (simp; omega) | (simp at *; omega))
  have l3_3 : w.heap.size + 3 < w3.heap.size := by omega
  have r3_3 := fun o => hf3 (w.heap.size + 3) o (by first | omega | (simp only [sz_alloc, sz_set, sz_drew, sz_drewN, sz_iterAt, sz_iter] at *; omega) | (simp; done) | (simp; omega) | (simp at *; omega))
  clear hc3 hf3
  go_wp2_with fail
  refine (rSound_any v _ hv).mono ?_
  rintro e w4 ⟨rfl, hb4⟩
  rw [sv]
  clear sv
  obtain ⟨hc4, hf4⟩ := bcell hb4
  have hz4 := hb4.size
  try simp at hz4
  have q4_0 := fun o => hc4 (w.heap.size) o (by first | omega | (simp only [sz_alloc, sz_set, sz_drew, sz_drewN, sz_iterAt, sz_iter] at *; omega) | (simp; done) | (simp; omega) | (simp at *; omega))
  have l4_0 : w.heap.size < w4.heap.size := by omega
  have r4_0 := fun o => hf4 (w.heap.size) o (by first | omega | (simp only [sz_alloc, sz_set, sz_drew, sz_drewN, sz_iterAt, sz_iter] at *; omega) | (simp; done) | (simp; omega) | (simp at *; omega))
  have q4_1 := fun o => hc4 (w.heap.size + 1) o (by first | omega | (simp only [sz_alloc, sz_set, sz_drew, sz_drewN, sz_iterAt, sz_iter] at *; omega) | (simp; done) | (simp; omega) | (simp at *; omega))
  have l4_1 : w.heap.size + 1 < w4.heap.size := by omega
  have r4_1 := fun o => hf4 (w.heap.size + 1) o (by first | omega | (simp only [sz_alloc, sz_set, sz_drew, sz_drewN, sz_iterAt, sz_iter] at *; omega) | (simp; done) | (simp; omega) | (simp at *; omega))
  have q4_2 := fun o => hc4 (w.heap.size + 2) o (by first | omega | (simp only [sz_alloc, sz_set, sz_drew, sz_drewN, sz_iterAt, sz_iter] at *; omega) | (simp; done) | (simp; omega) | (simp at *; omega))
  have l4_2 : w.heap.size + 2 < w4.heap.size := by omega
  have r4_2 := fun o => hf4 (w.heap.size + 2) o (by first | omega | (simp only [sz_alloc, sz_set, sz_drew, sz_drewN, sz_iterAt, sz_iter] at *; omega) | (simp; done) | (simp; omega) | (simp at *; omega))
  have q4_3 := fun o => hc4 (w.heap.size + 3) o (by first | omega | (simp only [sz_alloc, sz_set, sz_drew, sz_drewN, sz_iterAt, sz_iter] at *; omega) | (simp; done) | (simp; omega) | (simp at *; omega))
  have l4_3 : w.heap.size + 3 < w4.heap.size := by omega
  have r4_3 := fun o => hf4 (w.heap.size + 3) o (by first | omega | (simp only [sz_alloc, sz_set, sz_drew, sz_drewN, sz_iterAt, sz_iter] at *; omega) | (simp; done) | (simp; omega) | (simp at *; omega))
  clear hc4 hf4
  go_wp2_with fail
  refine (matchOne_any (tLeast lo) v _ (tst_one_wf (by omega) hl) hv (hE.below (by repeat' (first | (with_reducible exact Below.refl _ _) | (with_reducible assumption) | (with_reducible refine Below.drew ?_) | (with_reducible refine below_drewN ?_ _) | (with_reducible refine below_iterAt ?_ ?_ _ _) | (with_reducible refine below_iter ?_ ?_ _ _) | (with_reducible refine Below.alloc ?_ ?_ _) | (with_reducible refine Below.setCell ?_ ?_ _) | (with_reducible refine Below.trans ?_ (Below.mono (by assumption) ?_)) | (simp only [sz_alloc, sz_set, sz_drew, sz_drewN, sz_iterAt, sz_iter] at *; omega) | omega | (simp; done) | (simp; omega) | (apply Below.size; assumption) | (simp only [sz_drew, sz_drewN]; apply Below.size; assumption) | (refine Nat.le_trans ?_ (Below.size (by assumption))))))).mono ?_
  rintro e w5 ⟨rfl, hb5⟩
  rw [r1]
  clear r1
  obtain ⟨hc5, hf5⟩ := bcell hb5
  have hz5 := hb5.size
  try simp at hz5
  have q5_0 := fun o => hc5 (w.heap.size) o (by first | omega | (simp only [sz_alloc, sz_set, sz_drew, sz_drewN, sz_iterAt, sz_iter] at *; omega) | (simp; done) | (simp; omega) | (simp at *; omega))
  have l5_0 : w.heap.size < w5.heap.size := by omega
  have r5_0 := fun o => hf5 (w.heap.size) o (by first | omega | (simp only [sz_alloc, sz_set, sz_drew, sz_drewN, sz_iterAt, sz_iter] at *; omega) | (simp; done) | (simp; omega) | (simp at *; omega))
  have q5_1 := fun o => hc5 (w.heap.size + 1) o (by first | omega | (simp only [sz_alloc, sz_set, sz_drew, sz_drewN, sz_iterAt, sz_iter] at *; omega) | (simp; done) | (simp; omega) | (simp at *; omega))
  have l5_1 : w.heap.size + 1 < w5.heap.size := by omega
  have r5_1 := fun o => hf5 (w.heap.size + 1) o (by first | omega | (simp only [sz_alloc, sz_set, sz_drew, sz_drewN, sz_iterAt, sz_iter] at *; omega) | (simp; done) | (simp; omega) | (simp at *; omega))
  have q5_2 := fun o => hc5 (w.heap.size + 2) o (by first | omega | (simp only [sz_alloc, sz_set, sz_drew, sz_drewN, sz_iterAt, sz_iter] at *; omega) | (simp; done) | (simp; omega) | (simp at *; omega))
  have l5_2 : w.heap.size + 2 < w5.heap.size := by omega
  have r5_2 := fun o => hf5 (w.heap.size + 2) o (by first | omega | (simp only [sz_alloc, sz_set, sz_drew, sz_drewN, sz_iterAt, sz_iter] at *; omega) | (simp; done) | (simp; omega) | (simp at *; omega))
  have q5_3 := fun o => hc5 (w.heap.size + 3) o (by first | omega | (simp only [sz_alloc, sz_set, sz_drew, sz_drewN, sz_iterAt, sz_iter] at *; omega) | (simp; done) | (simp; omega) | (simp at *; omega))
  have l5_3 : w.heap.size + 3 < w5.heap.size := by omega
  have r5_3 := fun o => hf5 (w.heap.size + 3) o (by first | omega | (simp only [sz_alloc, sz_set, sz_drew, sz_drewN, sz_iterAt, sz_iter] at *; omega) | (simp; done) | (simp; omega) | (simp at *; omega))
  clear hc5 hf5
  go_wp2_with fail
  refine (matchOne_any (tMost hi) v _ (tst_one_wf (by omega) hh) hv (hE.below (by repeat' (first | (with_reducible exact Below.refl _ _) | (with_reducible assumption) | (with_reducible refine Below.drew ?_) | (with_reducible refine below_drewN ?_ _) | (with_reducible refine below_iterAt ?_ ?_ _ _) | (with_reducible refine below_iter ?_ ?_ _ _) | (with_reducible refine Below.alloc ?_ ?_ _) | (with_reducible refine Below.setCell ?_ ?_ _) | (with_reducible refine Below.trans ?_ (Below.mono (by assumption) ?_)) | (simp only [sz_alloc, sz_set, sz_drew, sz_drewN, sz_iterAt, sz_iter] at *; omega) | omega | (simp; done) | (simp; omega) | (apply Below.size; assumption) | (simp only [sz_drew, sz_drewN]; apply Below.size; assumption) | (refine Nat.le_trans ?_ (Below.size (by assumption))))))).mono ?_
  rintro e w6 ⟨rfl, hb6⟩
  rw [r2]
  clear r2
  obtain ⟨hc6, hf6⟩ := bcell hb6
  have hz6 := hb6.size
  try simp at hz6
  have q6_0 := fun o => hc6 (w.heap.size) o (by first | omega | (simp only [sz_alloc, sz_set, sz_drew, sz_drewN, sz_iterAt, sz_iter] at *; omega) | (simp; done) | (simp; omega) | (simp at *; omega))
  have l6_0 : w.heap.size < w6.heap.size := by omega
  have r6_0 := fun o => hf6 (w.heap.size) o (by first | omega | (simp only [sz_alloc, sz_set, sz_drew, sz_drewN, sz_iterAt, sz_iter] at *; omega) | (simp; done) | (simp; omega) | (simp at *; omega))
  have q6_1 := fun o => hc6 (w.heap.size + 1) o (by first | omega | (simp only [sz_alloc, sz_set, sz_drew, sz_drewN, sz_iterAt, sz_iter] at *; omega) | (simp; done) | (simp; omega) | (simp at *; omega))
  have l6_1 : w.heap.size + 1 < w6.heap.size := by omega
  have r6_1 := fun o => hf6 (w.heap.size + 1) o (by first | omega | (simp only [sz_alloc, sz_set, sz_drew, sz_drewN, sz_iterAt, sz_iter] at *; omega) | (simp; done) | (simp; omega) | (simp at *; omega))
  have q6_2 := fun o => hc6 (w.heap.size + 2) o (by first | omega | (simp only [sz_alloc, sz_set, sz_drew, sz_drewN, sz_iterAt, sz_iter] at *; omega) | (simp; done) | (simp; omega) | (simp at *; omega))
  have l6_2 : w.heap.size + 2 < w6.heap.size := by omega
  have r6_2 := fun o => hf6 (w.heap.size + 2) o (by first | omega | (simp only [sz_alloc, sz_set, sz_drew, sz_drewN, sz_iterAt, sz_iter] at *; omega) | (simp; done) | (simp; omega) | (simp at *; omega))
  have q6_3 := fun o => hc6 (w.heap.size + 3) o (by first | omega | (simp only [sz_alloc, sz_set, sz_drew, sz_drewN, sz_iterAt, sz_iter] at *; omega) | (simp; done) | (simp; omega) | (simp at *; omega))
  have l6_3 : w.heap.size + 3 < w6.heap.size := by omega
  have r6_3 := fun o => hf6 (w.heap.size + 3) o (by first | omega | (simp only [sz_alloc, sz_set, sz_drew, sz_drewN, sz_iterAt, sz_iter] at *; omega) | (simp; done) | (simp; omega) | (simp at *; omega))
  clear hc6 hf6
  subst hq
  cases a <;> cases b
  all_goals
    go_wp2_with fail
    go_ret
    exact ⟨ret_bool (by rfl), (by repeat' (first | (with_reducible exact Below.refl _ _) | (with_reducible assumption) | (with_reducible refine Below.drew ?_) | (with_reducible refine below_drewN ?_ _) | (with_reducible refine below_iterAt ?_ ?_ _ _) | (with_reducible refine below_iter ?_ ?_ _ _) | (with_reducible refine Below.alloc ?_ ?_ _) | (with_reducible refine Below.setCell ?_ ?_ _) | (with_reducible refine Below.trans ?_ (Below.mono (by assumption) ?_)) | (simp only [sz_alloc, sz_set, sz_drew, sz_drewN, sz_iterAt, sz_iter] at *; omega) | omega | (simp; done) | (simp; omega) | (apply Below.size; assumption) | (simp only [sz_drew, sz_drewN]; apply Below.size; assumption) | (refine Nat.le_trans ?_ (Below.size (by assumption)))))⟩
end Go.Proofs.YtogegempbjpdiaaDoor
