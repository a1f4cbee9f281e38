/- soffitlaw17.PolicyFirst, walked. -/
import Derived.Test.YtfhmjkdpohepaaaDoorAwake17
set_option linter.unusedSimpArgs false
set_option linter.unusedVariables false
namespace Go.Proofs.YtfhmjkdpohepaaaDoor
open Go.RowKit

set_option maxRecDepth 100000 in
set_option maxHeartbeats 6400000 in
theorem first_no (os : List Vl) (df : Vl) (m : Int) (A : Option Addr) (ca : Nat) (w : World) (hA : RdL w 5 A (os.map Vl.cells5)) (hos : ∀ v ∈ os, v.wf) (hdf : df.wf) (n1 : os.length ≤ 9223372036854775807) (hE : Env w)
    (hs : sndAll os [] df = false) (ht : sndAll os os df = false) :
    Calls Tryd.prog 7 #[.slice A os.length ca, .agg #[.int .i64 df.k, .int .i64 df.n, .int .i64 df.s, .string df.t, .int .i64 df.i], .int .u16 m] w fun e w' => e = .returned (.bool true) ∧ Below w.heap.size w w' := by
  have hn : ∀ W : World, _ := fun W => (neV_run Vl.zero Vl.zero W).trans (by rw [eqB_self])
  have hq : ∀ W : World, _ := fun W => (eqV_run Vl.zero Vl.zero W).trans (by rw [eqB_self])
  go_enter Tryd.func7, Tryd.ntmps7
  go_wp2_with fail
  generalize hEW0 : w.alloc _ = W0
  have hbW0 : Below w.heap.size w W0 := (by rw [← hEW0]; exact (by repeat' (first | (with_reducible exact Below.refl _ _) | (with_reducible assumption) | (with_reducible refine Below.drew ?_) | (with_reducible refine below_drewN ?_ _) | (with_reducible refine below_iterAt ?_ ?_ _ _) | (with_reducible refine below_iter ?_ ?_ _ _) | (with_reducible refine Below.alloc ?_ ?_ _) | (with_reducible refine Below.setCell ?_ ?_ _) | (with_reducible refine Below.trans ?_ (Below.mono (by assumption) ?_)) | (simp only [sz_alloc, sz_set, sz_drew, sz_drewN, sz_iterAt, sz_iter] at *; omega) | omega | (simp; done) | (simp; omega) | (apply Below.size; assumption) | (simp only [sz_drew, sz_drewN]; apply Below.size; assumption) | (refine Nat.le_trans ?_ (Below.size (by assumption))))))
  have lW0_0 : w.heap.size < W0.heap.size := (by rw [← hEW0]; first | omega | (simp only [sz_alloc, sz_set, sz_drew, sz_drewN, sz_iterAt, sz_iter] at *; omega) | (simp; done) | (simp; omega) | (simp at *; omega))
  have qW0_0 : ∀ o, W0.cell? ⟨w.heap.size, o, none⟩ = _ := fun o => congrArg (fun W : World => W.cell? ⟨w.heap.size, o, none⟩) hEW0.symm
  have rW0_0 : ∀ o, W0.frozen? ⟨w.heap.size, o, none⟩ = _ := fun o => congrArg (fun W : World => W.frozen? ⟨w.heap.size, o, none⟩) hEW0.symm
  clear hEW0
  refine (pall_any os.length m W0 n1).mono ?_
  rintro e w1 ⟨fs, F, cf, rfl, hF, hrise, h16, hb1⟩
  obtain ⟨hc1, hf1⟩ := bcell hb1
  have hz1 := hb1.size
  try simp at hz1
  have q1_0 := fun o => hc1 (w.heap.size) o (by first | omega | (simp only [sz_alloc, sz_set, sz_drew, sz_drewN, sz_iterAt, sz_iter] at *; omega) | (simp; done) | (simp; omega) | (simp at *; omega))
  have l1_0 : w.heap.size < w1.heap.size := by omega
  have r1_0 := fun o => hf1 (w.heap.size) o (by first | omega | (simp only [sz_alloc, sz_set, sz_drew, sz_drewN, sz_iterAt, sz_iter] at *; omega) | (simp; done) | (simp; omega) | (simp at *; omega))
  clear hc1 hf1
  have hA1 : RdL w1 5 A (os.map Vl.cells5) := hA.below (by repeat' (first | (with_reducible exact Below.refl _ _) | (with_reducible assumption) | (with_reducible refine Below.drew ?_) | (with_reducible refine below_drewN ?_ _) | (with_reducible refine below_iterAt ?_ ?_ _ _) | (with_reducible refine below_iter ?_ ?_ _ _) | (with_reducible refine Below.alloc ?_ ?_ _) | (with_reducible refine Below.setCell ?_ ?_ _) | (with_reducible refine Below.trans ?_ (Below.mono (by assumption) ?_)) | (simp only [sz_alloc, sz_set, sz_drew, sz_drewN, sz_iterAt, sz_iter] at *; omega) | omega | (simp; done) | (simp; omega) | (apply Below.size; assumption) | (simp only [sz_drew, sz_drewN]; apply Below.size; assumption) | (refine Nat.le_trans ?_ (Below.size (by assumption)))))
  have hE1 : Env w1 := hE.below (by repeat' (first | (with_reducible exact Below.refl _ _) | (with_reducible assumption) | (with_reducible refine Below.drew ?_) | (with_reducible refine below_drewN ?_ _) | (with_reducible refine below_iterAt ?_ ?_ _ _) | (with_reducible refine below_iter ?_ ?_ _ _) | (with_reducible refine Below.alloc ?_ ?_ _) | (with_reducible refine Below.setCell ?_ ?_ _) | (with_reducible refine Below.trans ?_ (Below.mono (by assumption) ?_)) | (simp only [sz_alloc, sz_set, sz_drew, sz_drewN, sz_iterAt, sz_iter] at *; omega) | omega | (simp; done) | (simp; omega) | (apply Below.size; assumption) | (simp only [sz_drew, sz_drewN]; apply Below.size; assumption) | (refine Nat.le_trans ?_ (Below.size (by assumption)))))
  go_wp2_with fail
  refine (outNo_any os [] df fs A none F ca 0 cf _ (hA1.below (by repeat' (first | (with_reducible exact Below.refl _ _) | (with_reducible assumption) | (with_reducible refine Below.drew ?_) | (with_reducible refine below_drewN ?_ _) | (with_reducible refine below_iterAt ?_ ?_ _ _) | (with_reducible refine below_iter ?_ ?_ _ _) | (with_reducible refine Below.alloc ?_ ?_ _) | (with_reducible refine Below.setCell ?_ ?_ _) | (with_reducible refine Below.trans ?_ (Below.mono (by assumption) ?_)) | (simp only [sz_alloc, sz_set, sz_drew, sz_drewN, sz_iterAt, sz_iter] at *; omega) | omega | (simp; done) | (simp; omega) | (apply Below.size; assumption) | (simp only [sz_drew, sz_drewN]; apply Below.size; assumption) | (refine Nat.le_trans ?_ (Below.size (by assumption)))))) (RdL.nil_ _ _ _) (hF.below (by repeat' (first | (with_reducible exact Below.refl _ _) | (with_reducible assumption) | (with_reducible refine Below.drew ?_) | (with_reducible refine below_drewN ?_ _) | (with_reducible refine below_iterAt ?_ ?_ _ _) | (with_reducible refine below_iter ?_ ?_ _ _) | (with_reducible refine Below.alloc ?_ ?_ _) | (with_reducible refine Below.setCell ?_ ?_ _) | (with_reducible refine Below.trans ?_ (Below.mono (by assumption) ?_)) | (simp only [sz_alloc, sz_set, sz_drew, sz_drewN, sz_iterAt, sz_iter] at *; omega) | omega | (simp; done) | (simp; omega) | (apply Below.size; assumption) | (simp only [sz_drew, sz_drewN]; apply Below.size; assumption) | (refine Nat.le_trans ?_ (Below.size (by assumption)))))) hos nil_wf hdf hrise h16 n1 (by simp) (hE1.below (by repeat' (first | (with_reducible exact Below.refl _ _) | (with_reducible assumption) | (with_reducible refine Below.drew ?_) | (with_reducible refine below_drewN ?_ _) | (with_reducible refine below_iterAt ?_ ?_ _ _) | (with_reducible refine below_iter ?_ ?_ _ _) | (with_reducible refine Below.alloc ?_ ?_ _) | (with_reducible refine Below.setCell ?_ ?_ _) | (with_reducible refine Below.trans ?_ (Below.mono (by assumption) ?_)) | (simp only [sz_alloc, sz_set, sz_drew, sz_drewN, sz_iterAt, sz_iter] at *; omega) | omega | (simp; done) | (simp; omega) | (apply Below.size; assumption) | (simp only [sz_drew, sz_drewN]; apply Below.size; assumption) | (refine Nat.le_trans ?_ (Below.size (by assumption)))))) 70 (by decide) hs).mono ?_
  rintro e w2 ⟨rfl, hb2⟩
  obtain ⟨hc2, hf2⟩ := bcell hb2
  have hz2 := hb2.size
  try simp at hz2
  have q2_0 := fun o => hc2 (w.heap.size) o (by first | omega | (simp only [sz_alloc, sz_set, sz_drew, sz_drewN, sz_iterAt, sz_iter] at *; omega) | (simp; done) | (simp; omega) | (simp at *; omega))
  have l2_0 : w.heap.size < w2.heap.size := by omega
  have r2_0 := fun o => hf2 (w.heap.size) o (by first | omega | (simp only [sz_alloc, sz_set, sz_drew, sz_drewN, sz_iterAt, sz_iter] at *; omega) | (simp; done) | (simp; omega) | (simp at *; omega))
  clear hc2 hf2
  go_wp2_with fail
  refine (outNo_any os [] df fs A none F ca 0 cf _ (hA1.below (by repeat' (first | (with_reducible exact Below.refl _ _) | (with_reducible assumption) | (with_reducible refine Below.drew ?_) | (with_reducible refine below_drewN ?_ _) | (with_reducible refine below_iterAt ?_ ?_ _ _) | (with_reducible refine below_iter ?_ ?_ _ _) | (with_reducible refine Below.alloc ?_ ?_ _) | (with_reducible refine Below.setCell ?_ ?_ _) | (with_reducible refine Below.trans ?_ (Below.mono (by assumption) ?_)) | (simp only [sz_alloc, sz_set, sz_drew, sz_drewN, sz_iterAt, sz_iter] at *; omega) | omega | (simp; done) | (simp; omega) | (apply Below.size; assumption) | (simp only [sz_drew, sz_drewN]; apply Below.size; assumption) | (refine Nat.le_trans ?_ (Below.size (by assumption)))))) (RdL.nil_ _ _ _) (hF.below (by repeat' (first | (with_reducible exact Below.refl _ _) | (with_reducible assumption) | (with_reducible refine Below.drew ?_) | (with_reducible refine below_drewN ?_ _) | (with_reducible refine below_iterAt ?_ ?_ _ _) | (with_reducible refine below_iter ?_ ?_ _ _) | (with_reducible refine Below.alloc ?_ ?_ _) | (with_reducible refine Below.setCell ?_ ?_ _) | (with_reducible refine Below.trans ?_ (Below.mono (by assumption) ?_)) | (simp only [sz_alloc, sz_set, sz_drew, sz_drewN, sz_iterAt, sz_iter] at *; omega) | omega | (simp; done) | (simp; omega) | (apply Below.size; assumption) | (simp only [sz_drew, sz_drewN]; apply Below.size; assumption) | (refine Nat.le_trans ?_ (Below.size (by assumption)))))) hos nil_wf hdf hrise h16 n1 (by simp) (hE1.below (by repeat' (first | (with_reducible exact Below.refl _ _) | (with_reducible assumption) | (with_reducible refine Below.drew ?_) | (with_reducible refine below_drewN ?_ _) | (with_reducible refine below_iterAt ?_ ?_ _ _) | (with_reducible refine below_iter ?_ ?_ _ _) | (with_reducible refine Below.alloc ?_ ?_ _) | (with_reducible refine Below.setCell ?_ ?_ _) | (with_reducible refine Below.trans ?_ (Below.mono (by assumption) ?_)) | (simp only [sz_alloc, sz_set, sz_drew, sz_drewN, sz_iterAt, sz_iter] at *; omega) | omega | (simp; done) | (simp; omega) | (apply Below.size; assumption) | (simp only [sz_drew, sz_drewN]; apply Below.size; assumption) | (refine Nat.le_trans ?_ (Below.size (by assumption)))))) 80 (by decide) hs).mono ?_
  rintro e w3 ⟨rfl, hb3⟩
  obtain ⟨hc3, hf3⟩ := bcell hb3
  have hz3 := hb3.size
  try simp at hz3
  have q3_0 := fun o => hc3 (w.heap.size) o (by first | omega | (simp only [sz_alloc, sz_set, sz_drew, sz_drewN, sz_iterAt, sz_iter] at *; omega) | (simp; done) | (simp; omega) | (simp at *; omega))
  have l3_0 : w.heap.size < w3.heap.size := by omega
  have r3_0 := fun o => hf3 (w.heap.size) o (by first | omega | (simp only [sz_alloc, sz_set, sz_drew, sz_drewN, sz_iterAt, sz_iter] at *; omega) | (simp; done) | (simp; omega) | (simp at *; omega))
  have q3_1 := fun o => hc3 (w2.heap.size) o (by first | omega | (simp only [sz_alloc, sz_set, sz_drew, sz_drewN, sz_iterAt, sz_iter] at *; omega) | (simp; done) | (simp; omega) | (simp at *; omega))
  have l3_1 : w2.heap.size < w3.heap.size := by omega
  have r3_1 := fun o => hf3 (w2.heap.size) o (by first | omega | (simp only [sz_alloc, sz_set, sz_drew, sz_drewN, sz_iterAt, sz_iter] at *; omega) | (simp; done) | (simp; omega) | (simp at *; omega))
  clear hc3 hf3
  go_wp2_with fail
  refine (outNo_any os os df fs A A F ca ca cf _ (hA1.below (by repeat' (first | (with_reducible exact Below.refl _ _) | (with_reducible assumption) | (with_reducible refine Below.drew ?_) | (with_reducible refine below_drewN ?_ _) | (with_reducible refine below_iterAt ?_ ?_ _ _) | (with_reducible refine below_iter ?_ ?_ _ _) | (with_reducible refine Below.alloc ?_ ?_ _) | (with_reducible refine Below.setCell ?_ ?_ _) | (with_reducible refine Below.trans ?_ (Below.mono (by assumption) ?_)) | (simp only [sz_alloc, sz_set, sz_drew, sz_drewN, sz_iterAt, sz_iter] at *; omega) | omega | (simp; done) | (simp; omega) | (apply Below.size; assumption) | (simp only [sz_drew, sz_drewN]; apply Below.size; assumption) | (refine Nat.le_trans ?_ (Below.size (by assumption)))))) (hA1.below (by repeat' (first | (with_reducible exact Below.refl _ _) | (with_reducible assumption) | (with_reducible refine Below.drew ?_) | (with_reducible refine below_drewN ?_ _) | (with_reducible refine below_iterAt ?_ ?_ _ _) | (with_reducible refine below_iter ?_ ?_ _ _) | (with_reducible refine Below.alloc ?_ ?_ _) | (with_reducible refine Below.setCell ?_ ?_ _) | (with_reducible refine Below.trans ?_ (Below.mono (by assumption) ?_)) | (simp only [sz_alloc, sz_set, sz_drew, sz_drewN, sz_iterAt, sz_iter] at *; omega) | omega | (simp; done) | (simp; omega) | (apply Below.size; assumption) | (simp only [sz_drew, sz_drewN]; apply Below.size; assumption) | (refine Nat.le_trans ?_ (Below.size (by assumption)))))) (hF.below (by repeat' (first | (with_reducible exact Below.refl _ _) | (with_reducible assumption) | (with_reducible refine Below.drew ?_) | (with_reducible refine below_drewN ?_ _) | (with_reducible refine below_iterAt ?_ ?_ _ _) | (with_reducible refine below_iter ?_ ?_ _ _) | (with_reducible refine Below.alloc ?_ ?_ _) | (with_reducible refine Below.setCell ?_ ?_ _) | (with_reducible refine Below.trans ?_ (Below.mono (by assumption) ?_)) | (simp only [sz_alloc, sz_set, sz_drew, sz_drewN, sz_iterAt, sz_iter] at *; omega) | omega | (simp; done) | (simp; omega) | (apply Below.size; assumption) | (simp only [sz_drew, sz_drewN]; apply Below.size; assumption) | (refine Nat.le_trans ?_ (Below.size (by assumption)))))) hos hos hdf hrise h16 n1 n1 (hE1.below (by repeat' (first | (with_reducible exact Below.refl _ _) | (with_reducible assumption) | (with_reducible refine Below.drew ?_) | (with_reducible refine below_drewN ?_ _) | (with_reducible refine below_iterAt ?_ ?_ _ _) | (with_reducible refine below_iter ?_ ?_ _ _) | (with_reducible refine Below.alloc ?_ ?_ _) | (with_reducible refine Below.setCell ?_ ?_ _) | (with_reducible refine Below.trans ?_ (Below.mono (by assumption) ?_)) | (simp only [sz_alloc, sz_set, sz_drew, sz_drewN, sz_iterAt, sz_iter] at *; omega) | omega | (simp; done) | (simp; omega) | (apply Below.size; assumption) | (simp only [sz_drew, sz_drewN]; apply Below.size; assumption) | (refine Nat.le_trans ?_ (Below.size (by assumption)))))) 80 (by decide) ht).mono ?_
  rintro e w4 ⟨rfl, hb4⟩
  obtain ⟨hc4, hf4⟩ := bcell hb4
  have hz4 := hb4.size
  try simp at hz4
  have q4_0 := fun o => hc4 (w.heap.size) o (by first | omega | (simp only [sz_alloc, sz_set, sz_drew, sz_drewN, sz_iterAt, sz_iter] at *; omega) | (simp; done) | (simp; omega) | (simp at *; omega))
  have l4_0 : w.heap.size < w4.heap.size := by omega
  have r4_0 := fun o => hf4 (w.heap.size) o (by first | omega | (simp only [sz_alloc, sz_set, sz_drew, sz_drewN, sz_iterAt, sz_iter] at *; omega) | (simp; done) | (simp; omega) | (simp at *; omega))
  have q4_1 := fun o => hc4 (w2.heap.size) o (by first | omega | (simp only [sz_alloc, sz_set, sz_drew, sz_drewN, sz_iterAt, sz_iter] at *; omega) | (simp; done) | (simp; omega) | (simp at *; omega))
  have l4_1 : w2.heap.size < w4.heap.size := by omega
  have r4_1 := fun o => hf4 (w2.heap.size) o (by first | omega | (simp only [sz_alloc, sz_set, sz_drew, sz_drewN, sz_iterAt, sz_iter] at *; omega) | (simp; done) | (simp; omega) | (simp at *; omega))
  have q4_2 := fun o => hc4 (w3.heap.size) o (by first | omega | (simp only [sz_alloc, sz_set, sz_drew, sz_drewN, sz_iterAt, sz_iter] at *; omega) | (simp; done) | (simp; omega) | (simp at *; omega))
  have l4_2 : w3.heap.size < w4.heap.size := by omega
  have r4_2 := fun o => hf4 (w3.heap.size) o (by first | omega | (simp only [sz_alloc, sz_set, sz_drew, sz_drewN, sz_iterAt, sz_iter] at *; omega) | (simp; done) | (simp; omega) | (simp at *; omega))
  clear hc4 hf4
  go_wp2_with fail
  refine (awake17_any _ (hE1.below (by repeat' (first | (with_reducible exact Below.refl _ _) | (with_reducible assumption) | (with_reducible refine Below.drew ?_) | (with_reducible refine below_drewN ?_ _) | (with_reducible refine below_iterAt ?_ ?_ _ _) | (with_reducible refine below_iter ?_ ?_ _ _) | (with_reducible refine Below.alloc ?_ ?_ _) | (with_reducible refine Below.setCell ?_ ?_ _) | (with_reducible refine Below.trans ?_ (Below.mono (by assumption) ?_)) | (simp only [sz_alloc, sz_set, sz_drew, sz_drewN, sz_iterAt, sz_iter] at *; omega) | omega | (simp; done) | (simp; omega) | (apply Below.size; assumption) | (simp only [sz_drew, sz_drewN]; apply Below.size; assumption) | (refine Nat.le_trans ?_ (Below.size (by assumption))))))).mono ?_
  rintro e w5 ⟨rfl, hb5⟩
  obtain ⟨hc5, hf5⟩ := bcell hb5
  have hz5 := hb5.size
  try simp at hz5
  have q5_0 := fun o => hc5 (w2.heap.size) o (by first | omega | (simp only [sz_alloc, sz_set, sz_drew, sz_drewN, sz_iterAt, sz_iter] at *; omega) | (simp; done) | (simp; omega) | (simp at *; omega))
  have l5_0 : w2.heap.size < w5.heap.size := by omega
  have r5_0 := fun o => hf5 (w2.heap.size) o (by first | omega | (simp only [sz_alloc, sz_set, sz_drew, sz_drewN, sz_iterAt, sz_iter] at *; omega) | (simp; done) | (simp; omega) | (simp at *; omega))
  have q5_1 := fun o => hc5 (w3.heap.size) o (by first | omega | (simp only [sz_alloc, sz_set, sz_drew, sz_drewN, sz_iterAt, sz_iter] at *; omega) | (simp; done) | (simp; omega) | (simp at *; omega))
  have l5_1 : w3.heap.size < w5.heap.size := by omega
  have r5_1 := fun o => hf5 (w3.heap.size) o (by first | omega | (simp only [sz_alloc, sz_set, sz_drew, sz_drewN, sz_iterAt, sz_iter] at *; omega) | (simp; done) | (simp; omega) | (simp at *; omega))
  have q5_2 := fun o => hc5 (w4.heap.size) o (by first | omega | (simp only [sz_alloc, sz_set, sz_drew, sz_drewN, sz_iterAt, sz_iter] at *; omega) | (simp; done) | (simp; omega) | (simp at *; omega))
  have l5_2 : w4.heap.size < w5.heap.size := by omega
  have r5_2 := fun o => hf5 (w4.heap.size) o (by first | omega | (simp only [sz_alloc, sz_set, sz_drew, sz_drewN, sz_iterAt, sz_iter] at *; omega) | (simp; done) | (simp; omega) | (simp at *; omega))
  clear hc5 hf5
  have ka0 : w5.cell? ⟨w2.heap.size, 0, none⟩ = some (.int .i64 0) := (by first | (simp [go_sem]; done) | (simp [go_sem, *]; done))
  have ka1 : w5.cell? ⟨w2.heap.size, 1, none⟩ = some (.int .i64 0) := (by first | (simp [go_sem]; done) | (simp [go_sem, *]; done))
  have ka2 : w5.cell? ⟨w2.heap.size, 2, none⟩ = some (.int .i64 0) := (by first | (simp [go_sem]; done) | (simp [go_sem, *]; done))
  have ka3 : w5.cell? ⟨w2.heap.size, 3, none⟩ = some (.string ⟨#[]⟩) := (by first | (simp [go_sem]; done) | (simp [go_sem, *]; done))
  have ka4 : w5.cell? ⟨w2.heap.size, 4, none⟩ = some (.int .i64 0) := (by first | (simp [go_sem]; done) | (simp [go_sem, *]; done))
  have kb0 : w5.cell? ⟨w3.heap.size, 0, none⟩ = some (.int .i64 0) := (by first | (simp [go_sem]; done) | (simp [go_sem, *]; done))
  have kb1 : w5.cell? ⟨w3.heap.size, 1, none⟩ = some (.int .i64 0) := (by first | (simp [go_sem]; done) | (simp [go_sem, *]; done))
  have kb2 : w5.cell? ⟨w3.heap.size, 2, none⟩ = some (.int .i64 0) := (by first | (simp [go_sem]; done) | (simp [go_sem, *]; done))
  have kb3 : w5.cell? ⟨w3.heap.size, 3, none⟩ = some (.string ⟨#[]⟩) := (by first | (simp [go_sem]; done) | (simp [go_sem, *]; done))
  have kb4 : w5.cell? ⟨w3.heap.size, 4, none⟩ = some (.int .i64 0) := (by first | (simp [go_sem]; done) | (simp [go_sem, *]; done))
  have kc0 : w5.cell? ⟨w4.heap.size, 0, none⟩ = some (.int .i64 0) := (by first | (simp [go_sem]; done) | (simp [go_sem, *]; done))
  have kc1 : w5.cell? ⟨w4.heap.size, 1, none⟩ = some (.int .i64 0) := (by first | (simp [go_sem]; done) | (simp [go_sem, *]; done))
  have kc2 : w5.cell? ⟨w4.heap.size, 2, none⟩ = some (.int .i64 0) := (by first | (simp [go_sem]; done) | (simp [go_sem, *]; done))
  have kc3 : w5.cell? ⟨w4.heap.size, 3, none⟩ = some (.string ⟨#[]⟩) := (by first | (simp [go_sem]; done) | (simp [go_sem, *]; done))
  have kc4 : w5.cell? ⟨w4.heap.size, 4, none⟩ = some (.int .i64 0) := (by first | (simp [go_sem]; done) | (simp [go_sem, *]; done))
  clear qW0_0 rW0_0 q1_0 r1_0 q2_0 r2_0 q3_0 q3_1 r3_0 r3_1 q4_0 q4_1 q4_2 r4_0 r4_1 r4_2 q5_0 q5_1 q5_2 r5_0 r5_1 r5_2
  clear hF hrise
  go_wp2_with fail
  go_ret
  exact ⟨ret_bool (by rfl), (by repeat' (first | (with_reducible exact Below.refl _ _) | (with_reducible assumption) | (with_reducible refine Below.drew ?_) | (with_reducible refine below_drewN ?_ _) | (with_reducible refine below_iterAt ?_ ?_ _ _) | (with_reducible refine below_iter ?_ ?_ _ _) | (with_reducible refine Below.alloc ?_ ?_ _) | (with_reducible refine Below.setCell ?_ ?_ _) | (with_reducible refine Below.trans ?_ (Below.mono (by assumption) ?_)) | (simp only [sz_alloc, sz_set, sz_drew, sz_drewN, sz_iterAt, sz_iter] at *; omega) | omega | (simp; done) | (simp; omega) | (apply Below.size; assumption) | (simp only [sz_drew, sz_drewN]; apply Below.size; assumption) | (refine Nat.le_trans ?_ (Below.size (by assumption)))))⟩

theorem any_take_succ {α : Type} {p : α → Bool} {xs : List α} {j : Nat} (hj : j < xs.length) : (xs.take (j + 1)).any p = ((xs.take j).any p || p (xs[j]'hj)) := by
  rw [List.take_succ_eq_append_getElem hj, List.any_append]; simp

theorem resP_nil (os : List Vl) (df : Vl) (fs : List Int) : resP os [] df fs = resF os df fs := by cases fs <;> rfl
theorem eqB_comm (a b : Vl) : eqB a b = eqB b a := by
  rw [Bool.eq_iff_iff, eqB_iff, eqB_iff]
  exact eq_comm

set_option maxRecDepth 100000 in
set_option maxHeartbeats 6400000 in
theorem first_yes (os : List Vl) (df : Vl) (m : Int) (A : Option Addr) (ca : Nat) (w : World) (hA : RdL w 5 A (os.map Vl.cells5)) (hos : ∀ v ∈ os, v.wf) (hdf : df.wf) (n1 : os.length ≤ 9223372036854775807) (hE : Env w)
    (hs : sndAll os [] df = true) (ht : sndAll os os df = true) :
    Calls Tryd.prog 7 #[.slice A os.length ca, .agg #[.int .i64 df.k, .int .i64 df.n, .int .i64 df.s, .string df.t, .int .i64 df.i], .int .u16 m] w fun e w' => e = .returned (.bool true) ∧ Below w.heap.size w w' := by
  go_enter Tryd.func7, Tryd.ntmps7
  go_wp2_with fail
  generalize hEW0 : w.alloc _ = W0
  have hbW0 : Below w.heap.size w W0 := (by rw [← hEW0]; exact (by repeat' (first | (with_reducible exact Below.refl _ _) | (with_reducible assumption) | (with_reducible refine Below.drew ?_) | (with_reducible refine below_drewN ?_ _) | (with_reducible refine below_iterAt ?_ ?_ _ _) | (with_reducible refine below_iter ?_ ?_ _ _) | (with_reducible refine Below.alloc ?_ ?_ _) | (with_reducible refine Below.setCell ?_ ?_ _) | (with_reducible refine Below.trans ?_ (Below.mono (by assumption) ?_)) | (simp only [sz_alloc, sz_set, sz_drew, sz_drewN, sz_iterAt, sz_iter] at *; omega) | omega | (simp; done) | (simp; omega) | (apply Below.size; assumption) | (simp only [sz_drew, sz_drewN]; apply Below.size; assumption) | (refine Nat.le_trans ?_ (Below.size (by assumption))))))
  have lW0_0 : w.heap.size < W0.heap.size := (by rw [← hEW0]; first | omega | (simp only [sz_alloc, sz_set, sz_drew, sz_drewN, sz_iterAt, sz_iter] at *; omega) | (simp; done) | (simp; omega) | (simp at *; omega))
  have qW0_0 : ∀ o, W0.cell? ⟨w.heap.size, o, none⟩ = _ := fun o => congrArg (fun W : World => W.cell? ⟨w.heap.size, o, none⟩) hEW0.symm
  have rW0_0 : ∀ o, W0.frozen? ⟨w.heap.size, o, none⟩ = _ := fun o => congrArg (fun W : World => W.frozen? ⟨w.heap.size, o, none⟩) hEW0.symm
  clear hEW0
  refine (pall_any os.length m W0 n1).mono ?_
  rintro e w1 ⟨fs, F, cf, rfl, hF, hrise, h16, hb1⟩
  obtain ⟨hc1, hf1⟩ := bcell hb1
  have hz1 := hb1.size
  try simp at hz1
  have q1_0 := fun o => hc1 (w.heap.size) o (by first | omega | (simp only [sz_alloc, sz_set, sz_drew, sz_drewN, sz_iterAt, sz_iter] at *; omega) | (simp; done) | (simp; omega) | (simp at *; omega))
  have l1_0 : w.heap.size < w1.heap.size := by omega
  have r1_0 := fun o => hf1 (w.heap.size) o (by first | omega | (simp only [sz_alloc, sz_set, sz_drew, sz_drewN, sz_iterAt, sz_iter] at *; omega) | (simp; done) | (simp; omega) | (simp at *; omega))
  clear hc1 hf1
  have hA1 : RdL w1 5 A (os.map Vl.cells5) := hA.below (by repeat' (first | (with_reducible exact Below.refl _ _) | (with_reducible assumption) | (with_reducible refine Below.drew ?_) | (with_reducible refine below_drewN ?_ _) | (with_reducible refine below_iterAt ?_ ?_ _ _) | (with_reducible refine below_iter ?_ ?_ _ _) | (with_reducible refine Below.alloc ?_ ?_ _) | (with_reducible refine Below.setCell ?_ ?_ _) | (with_reducible refine Below.trans ?_ (Below.mono (by assumption) ?_)) | (simp only [sz_alloc, sz_set, sz_drew, sz_drewN, sz_iterAt, sz_iter] at *; omega) | omega | (simp; done) | (simp; omega) | (apply Below.size; assumption) | (simp only [sz_drew, sz_drewN]; apply Below.size; assumption) | (refine Nat.le_trans ?_ (Below.size (by assumption)))))
  have hE1 : Env w1 := hE.below (by repeat' (first | (with_reducible exact Below.refl _ _) | (with_reducible assumption) | (with_reducible refine Below.drew ?_) | (with_reducible refine below_drewN ?_ _) | (with_reducible refine below_iterAt ?_ ?_ _ _) | (with_reducible refine below_iter ?_ ?_ _ _) | (with_reducible refine Below.alloc ?_ ?_ _) | (with_reducible refine Below.setCell ?_ ?_ _) | (with_reducible refine Below.trans ?_ (Below.mono (by assumption) ?_)) | (simp only [sz_alloc, sz_set, sz_drew, sz_drewN, sz_iterAt, sz_iter] at *; omega) | omega | (simp; done) | (simp; omega) | (apply Below.size; assumption) | (simp only [sz_drew, sz_drewN]; apply Below.size; assumption) | (refine Nat.le_trans ?_ (Below.size (by assumption)))))
  obtain ⟨x, hx⟩ : ∃ x, resF os df fs = x := ⟨_, rfl⟩
  have hx2 : resP os [] df fs = x := (resP_nil os df fs).trans hx
  obtain ⟨y, hy⟩ : ∃ y, resP os os df fs = y := ⟨_, rfl⟩
  have HX := Lib.hid hx
  have HY := Lib.hid hy
  have HX2 := Lib.hid hx2
  clear hx hy hx2
  have hn : ∀ W : World, _ := fun W => (neV_run x x W).trans (by rw [eqB_self])
  go_wp2_with fail
  refine (outF_any os [] df fs A none F ca 0 cf _ (hA1.below (by repeat' (first | (with_reducible exact Below.refl _ _) | (with_reducible assumption) | (with_reducible refine Below.drew ?_) | (with_reducible refine below_drewN ?_ _) | (with_reducible refine below_iterAt ?_ ?_ _ _) | (with_reducible refine below_iter ?_ ?_ _ _) | (with_reducible refine Below.alloc ?_ ?_ _) | (with_reducible refine Below.setCell ?_ ?_ _) | (with_reducible refine Below.trans ?_ (Below.mono (by assumption) ?_)) | (simp only [sz_alloc, sz_set, sz_drew, sz_drewN, sz_iterAt, sz_iter] at *; omega) | omega | (simp; done) | (simp; omega) | (apply Below.size; assumption) | (simp only [sz_drew, sz_drewN]; apply Below.size; assumption) | (refine Nat.le_trans ?_ (Below.size (by assumption)))))) (RdL.nil_ _ _ _) (hF.below (by repeat' (first | (with_reducible exact Below.refl _ _) | (with_reducible assumption) | (with_reducible refine Below.drew ?_) | (with_reducible refine below_drewN ?_ _) | (with_reducible refine below_iterAt ?_ ?_ _ _) | (with_reducible refine below_iter ?_ ?_ _ _) | (with_reducible refine Below.alloc ?_ ?_ _) | (with_reducible refine Below.setCell ?_ ?_ _) | (with_reducible refine Below.trans ?_ (Below.mono (by assumption) ?_)) | (simp only [sz_alloc, sz_set, sz_drew, sz_drewN, sz_iterAt, sz_iter] at *; omega) | omega | (simp; done) | (simp; omega) | (apply Below.size; assumption) | (simp only [sz_drew, sz_drewN]; apply Below.size; assumption) | (refine Nat.le_trans ?_ (Below.size (by assumption)))))) hos nil_wf hdf hrise h16 n1 (by simp) (hE1.below (by repeat' (first | (with_reducible exact Below.refl _ _) | (with_reducible assumption) | (with_reducible refine Below.drew ?_) | (with_reducible refine below_drewN ?_ _) | (with_reducible refine below_iterAt ?_ ?_ _ _) | (with_reducible refine below_iter ?_ ?_ _ _) | (with_reducible refine Below.alloc ?_ ?_ _) | (with_reducible refine Below.setCell ?_ ?_ _) | (with_reducible refine Below.trans ?_ (Below.mono (by assumption) ?_)) | (simp only [sz_alloc, sz_set, sz_drew, sz_drewN, sz_iterAt, sz_iter] at *; omega) | omega | (simp; done) | (simp; omega) | (apply Below.size; assumption) | (simp only [sz_drew, sz_drewN]; apply Below.size; assumption) | (refine Nat.le_trans ?_ (Below.size (by assumption)))))) hs).mono ?_
  rintro e w2 ⟨rfl, hb2⟩
  rw [HX.out]
  obtain ⟨hc2, hf2⟩ := bcell hb2
  have hz2 := hb2.size
  try simp at hz2
  have q2_0 := fun o => hc2 (w.heap.size) o (by first | omega | (simp only [sz_alloc, sz_set, sz_drew, sz_drewN, sz_iterAt, sz_iter] at *; omega) | (simp; done) | (simp; omega) | (simp at *; omega))
  have l2_0 : w.heap.size < w2.heap.size := by omega
  have r2_0 := fun o => hf2 (w.heap.size) o (by first | omega | (simp only [sz_alloc, sz_set, sz_drew, sz_drewN, sz_iterAt, sz_iter] at *; omega) | (simp; done) | (simp; omega) | (simp at *; omega))
  clear hc2 hf2
  go_wp2_with fail
  refine (outP_any os [] df fs A none F ca 0 cf _ (hA1.below (by repeat' (first | (with_reducible exact Below.refl _ _) | (with_reducible assumption) | (with_reducible refine Below.drew ?_) | (with_reducible refine below_drewN ?_ _) | (with_reducible refine below_iterAt ?_ ?_ _ _) | (with_reducible refine below_iter ?_ ?_ _ _) | (with_reducible refine Below.alloc ?_ ?_ _) | (with_reducible refine Below.setCell ?_ ?_ _) | (with_reducible refine Below.trans ?_ (Below.mono (by assumption) ?_)) | (simp only [sz_alloc, sz_set, sz_drew, sz_drewN, sz_iterAt, sz_iter] at *; omega) | omega | (simp; done) | (simp; omega) | (apply Below.size; assumption) | (simp only [sz_drew, sz_drewN]; apply Below.size; assumption) | (refine Nat.le_trans ?_ (Below.size (by assumption)))))) (RdL.nil_ _ _ _) (hF.below (by repeat' (first | (with_reducible exact Below.refl _ _) | (with_reducible assumption) | (with_reducible refine Below.drew ?_) | (with_reducible refine below_drewN ?_ _) | (with_reducible refine below_iterAt ?_ ?_ _ _) | (with_reducible refine below_iter ?_ ?_ _ _) | (with_reducible refine Below.alloc ?_ ?_ _) | (with_reducible refine Below.setCell ?_ ?_ _) | (with_reducible refine Below.trans ?_ (Below.mono (by assumption) ?_)) | (simp only [sz_alloc, sz_set, sz_drew, sz_drewN, sz_iterAt, sz_iter] at *; omega) | omega | (simp; done) | (simp; omega) | (apply Below.size; assumption) | (simp only [sz_drew, sz_drewN]; apply Below.size; assumption) | (refine Nat.le_trans ?_ (Below.size (by assumption)))))) hos nil_wf hdf hrise h16 n1 (by simp) (hE1.below (by repeat' (first | (with_reducible exact Below.refl _ _) | (with_reducible assumption) | (with_reducible refine Below.drew ?_) | (with_reducible refine below_drewN ?_ _) | (with_reducible refine below_iterAt ?_ ?_ _ _) | (with_reducible refine below_iter ?_ ?_ _ _) | (with_reducible refine Below.alloc ?_ ?_ _) | (with_reducible refine Below.setCell ?_ ?_ _) | (with_reducible refine Below.trans ?_ (Below.mono (by assumption) ?_)) | (simp only [sz_alloc, sz_set, sz_drew, sz_drewN, sz_iterAt, sz_iter] at *; omega) | omega | (simp; done) | (simp; omega) | (apply Below.size; assumption) | (simp only [sz_drew, sz_drewN]; apply Below.size; assumption) | (refine Nat.le_trans ?_ (Below.size (by assumption)))))) hs).mono ?_
  rintro e w3 ⟨rfl, hb3⟩
  rw [HX2.out]
  obtain ⟨hc3, hf3⟩ := bcell hb3
  have hz3 := hb3.size
  try simp at hz3
  have q3_0 := fun o => hc3 (w.heap.size) o (by first | omega | (simp only [sz_alloc, sz_set, sz_drew, sz_drewN, sz_iterAt, sz_iter] at *; omega) | (simp; done) | (simp; omega) | (simp at *; omega))
  have l3_0 : w.heap.size < w3.heap.size := by omega
  have r3_0 := fun o => hf3 (w.heap.size) o (by first | omega | (simp only [sz_alloc, sz_set, sz_drew, sz_drewN, sz_iterAt, sz_iter] at *; omega) | (simp; done) | (simp; omega) | (simp at *; omega))
  have q3_1 := fun o => hc3 (w2.heap.size) o (by first | omega | (simp only [sz_alloc, sz_set, sz_drew, sz_drewN, sz_iterAt, sz_iter] at *; omega) | (simp; done) | (simp; omega) | (simp at *; omega))
  have l3_1 : w2.heap.size < w3.heap.size := by omega
  have r3_1 := fun o => hf3 (w2.heap.size) o (by first | omega | (simp only [sz_alloc, sz_set, sz_drew, sz_drewN, sz_iterAt, sz_iter] at *; omega) | (simp; done) | (simp; omega) | (simp at *; omega))
  clear hc3 hf3
  go_wp2_with fail
  refine (outP_any os os df fs A A F ca ca cf _ (hA1.below (by repeat' (first | (with_reducible exact Below.refl _ _) | (with_reducible assumption) | (with_reducible refine Below.drew ?_) | (with_reducible refine below_drewN ?_ _) | (with_reducible refine below_iterAt ?_ ?_ _ _) | (with_reducible refine below_iter ?_ ?_ _ _) | (with_reducible refine Below.alloc ?_ ?_ _) | (with_reducible refine Below.setCell ?_ ?_ _) | (with_reducible refine Below.trans ?_ (Below.mono (by assumption) ?_)) | (simp only [sz_alloc, sz_set, sz_drew, sz_drewN, sz_iterAt, sz_iter] at *; omega) | omega | (simp; done) | (simp; omega) | (apply Below.size; assumption) | (simp only [sz_drew, sz_drewN]; apply Below.size; assumption) | (refine Nat.le_trans ?_ (Below.size (by assumption)))))) (hA1.below (by repeat' (first | (with_reducible exact Below.refl _ _) | (with_reducible assumption) | (with_reducible refine Below.drew ?_) | (with_reducible refine below_drewN ?_ _) | (with_reducible refine below_iterAt ?_ ?_ _ _) | (with_reducible refine below_iter ?_ ?_ _ _) | (with_reducible refine Below.alloc ?_ ?_ _) | (with_reducible refine Below.setCell ?_ ?_ _) | (with_reducible refine Below.trans ?_ (Below.mono (by assumption) ?_)) | (simp only [sz_alloc, sz_set, sz_drew, sz_drewN, sz_iterAt, sz_iter] at *; omega) | omega | (simp; done) | (simp; omega) | (apply Below.size; assumption) | (simp only [sz_drew, sz_drewN]; apply Below.size; assumption) | (refine Nat.le_trans ?_ (Below.size (by assumption)))))) (hF.below (by repeat' (first | (with_reducible exact Below.refl _ _) | (with_reducible assumption) | (with_reducible refine Below.drew ?_) | (with_reducible refine below_drewN ?_ _) | (with_reducible refine below_iterAt ?_ ?_ _ _) | (with_reducible refine below_iter ?_ ?_ _ _) | (with_reducible refine Below.alloc ?_ ?_ _) | (with_reducible refine Below.setCell ?_ ?_ _) | (with_reducible refine Below.trans ?_ (Below.mono (by assumption) ?_)) | (simp only [sz_alloc, sz_set, sz_drew, sz_drewN, sz_iterAt, sz_iter] at *; omega) | omega | (simp; done) | (simp; omega) | (apply Below.size; assumption) | (simp only [sz_drew, sz_drewN]; apply Below.size; assumption) | (refine Nat.le_trans ?_ (Below.size (by assumption)))))) hos hos hdf hrise h16 n1 n1 (hE1.below (by repeat' (first | (with_reducible exact Below.refl _ _) | (with_reducible assumption) | (with_reducible refine Below.drew ?_) | (with_reducible refine below_drewN ?_ _) | (with_reducible refine below_iterAt ?_ ?_ _ _) | (with_reducible refine below_iter ?_ ?_ _ _) | (with_reducible refine Below.alloc ?_ ?_ _) | (with_reducible refine Below.setCell ?_ ?_ _) | (with_reducible refine Below.trans ?_ (Below.mono (by assumption) ?_)) | (simp only [sz_alloc, sz_set, sz_drew, sz_drewN, sz_iterAt, sz_iter] at *; omega) | omega | (simp; done) | (simp; omega) | (apply Below.size; assumption) | (simp only [sz_drew, sz_drewN]; apply Below.size; assumption) | (refine Nat.le_trans ?_ (Below.size (by assumption)))))) ht).mono ?_
  rintro e w4 ⟨rfl, hb4⟩
  rw [HY.out]
  obtain ⟨hc4, hf4⟩ := bcell hb4
  have hz4 := hb4.size
  try simp at hz4
  have q4_0 := fun o => hc4 (w.heap.size) o (by first | omega | (simp only [sz_alloc, sz_set, sz_drew, sz_drewN, sz_iterAt, sz_iter] at *; omega) | (simp; done) | (simp; omega) | (simp at *; omega))
  have l4_0 : w.heap.size < w4.heap.size := by omega
  have r4_0 := fun o => hf4 (w.heap.size) o (by first | omega | (simp only [sz_alloc, sz_set, sz_drew, sz_drewN, sz_iterAt, sz_iter] at *; omega) | (simp; done) | (simp; omega) | (simp at *; omega))
  have q4_1 := fun o => hc4 (w2.heap.size) o (by first | omega | (simp only [sz_alloc, sz_set, sz_drew, sz_drewN, sz_iterAt, sz_iter] at *; omega) | (simp; done) | (simp; omega) | (simp at *; omega))
  have l4_1 : w2.heap.size < w4.heap.size := by omega
  have r4_1 := fun o => hf4 (w2.heap.size) o (by first | omega | (simp only [sz_alloc, sz_set, sz_drew, sz_drewN, sz_iterAt, sz_iter] at *; omega) | (simp; done) | (simp; omega) | (simp at *; omega))
  have q4_2 := fun o => hc4 (w3.heap.size) o (by first | omega | (simp only [sz_alloc, sz_set, sz_drew, sz_drewN, sz_iterAt, sz_iter] at *; omega) | (simp; done) | (simp; omega) | (simp at *; omega))
  have l4_2 : w3.heap.size < w4.heap.size := by omega
  have r4_2 := fun o => hf4 (w3.heap.size) o (by first | omega | (simp only [sz_alloc, sz_set, sz_drew, sz_drewN, sz_iterAt, sz_iter] at *; omega) | (simp; done) | (simp; omega) | (simp at *; omega))
  clear hc4 hf4
  go_wp2_with fail
  refine (awake17_any _ (hE1.below (by repeat' (first | (with_reducible exact Below.refl _ _) | (with_reducible assumption) | (with_reducible refine Below.drew ?_) | (with_reducible refine below_drewN ?_ _) | (with_reducible refine below_iterAt ?_ ?_ _ _) | (with_reducible refine below_iter ?_ ?_ _ _) | (with_reducible refine Below.alloc ?_ ?_ _) | (with_reducible refine Below.setCell ?_ ?_ _) | (with_reducible refine Below.trans ?_ (Below.mono (by assumption) ?_)) | (simp only [sz_alloc, sz_set, sz_drew, sz_drewN, sz_iterAt, sz_iter] at *; omega) | omega | (simp; done) | (simp; omega) | (apply Below.size; assumption) | (simp only [sz_drew, sz_drewN]; apply Below.size; assumption) | (refine Nat.le_trans ?_ (Below.size (by assumption))))))).mono ?_
  rintro e w5 ⟨rfl, hb5⟩
  obtain ⟨hc5, hf5⟩ := bcell hb5
  have hz5 := hb5.size
  try simp at hz5
  have q5_0 := fun o => hc5 (w2.heap.size) o (by first | omega | (simp only [sz_alloc, sz_set, sz_drew, sz_drewN, sz_iterAt, sz_iter] at *; omega) | (simp; done) | (simp; omega) | (simp at *; omega))
  have l5_0 : w2.heap.size < w5.heap.size := by omega
  have r5_0 := fun o => hf5 (w2.heap.size) o (by first | omega | (simp only [sz_alloc, sz_set, sz_drew, sz_drewN, sz_iterAt, sz_iter] at *; omega) | (simp; done) | (simp; omega) | (simp at *; omega))
  have q5_1 := fun o => hc5 (w3.heap.size) o (by first | omega | (simp only [sz_alloc, sz_set, sz_drew, sz_drewN, sz_iterAt, sz_iter] at *; omega) | (simp; done) | (simp; omega) | (simp at *; omega))
  have l5_1 : w3.heap.size < w5.heap.size := by omega
  have r5_1 := fun o => hf5 (w3.heap.size) o (by first | omega | (simp only [sz_alloc, sz_set, sz_drew, sz_drewN, sz_iterAt, sz_iter] at *; omega) | (simp; done) | (simp; omega) | (simp at *; omega))
  have q5_2 := fun o => hc5 (w4.heap.size) o (by first | omega | (simp only [sz_alloc, sz_set, sz_drew, sz_drewN, sz_iterAt, sz_iter] at *; omega) | (simp; done) | (simp; omega) | (simp at *; omega))
  have l5_2 : w4.heap.size < w5.heap.size := by omega
  have r5_2 := fun o => hf5 (w4.heap.size) o (by first | omega | (simp only [sz_alloc, sz_set, sz_drew, sz_drewN, sz_iterAt, sz_iter] at *; omega) | (simp; done) | (simp; omega) | (simp at *; omega))
  clear hc5 hf5
  have ka0 : w5.cell? ⟨w2.heap.size, 0, none⟩ = some (.int .i64 x.k) := (by first | (simp [go_sem]; done) | (simp [go_sem, *]; done))
  have ka1 : w5.cell? ⟨w2.heap.size, 1, none⟩ = some (.int .i64 x.n) := (by first | (simp [go_sem]; done) | (simp [go_sem, *]; done))
  have ka2 : w5.cell? ⟨w2.heap.size, 2, none⟩ = some (.int .i64 x.s) := (by first | (simp [go_sem]; done) | (simp [go_sem, *]; done))
  have ka3 : w5.cell? ⟨w2.heap.size, 3, none⟩ = some (.string x.t) := (by first | (simp [go_sem]; done) | (simp [go_sem, *]; done))
  have ka4 : w5.cell? ⟨w2.heap.size, 4, none⟩ = some (.int .i64 x.i) := (by first | (simp [go_sem]; done) | (simp [go_sem, *]; done))
  have kb0 : w5.cell? ⟨w3.heap.size, 0, none⟩ = some (.int .i64 x.k) := (by first | (simp [go_sem]; done) | (simp [go_sem, *]; done))
  have kb1 : w5.cell? ⟨w3.heap.size, 1, none⟩ = some (.int .i64 x.n) := (by first | (simp [go_sem]; done) | (simp [go_sem, *]; done))
  have kb2 : w5.cell? ⟨w3.heap.size, 2, none⟩ = some (.int .i64 x.s) := (by first | (simp [go_sem]; done) | (simp [go_sem, *]; done))
  have kb3 : w5.cell? ⟨w3.heap.size, 3, none⟩ = some (.string x.t) := (by first | (simp [go_sem]; done) | (simp [go_sem, *]; done))
  have kb4 : w5.cell? ⟨w3.heap.size, 4, none⟩ = some (.int .i64 x.i) := (by first | (simp [go_sem]; done) | (simp [go_sem, *]; done))
  have kc0 : w5.cell? ⟨w4.heap.size, 0, none⟩ = some (.int .i64 y.k) := (by first | (simp [go_sem]; done) | (simp [go_sem, *]; done))
  have kc1 : w5.cell? ⟨w4.heap.size, 1, none⟩ = some (.int .i64 y.n) := (by first | (simp [go_sem]; done) | (simp [go_sem, *]; done))
  have kc2 : w5.cell? ⟨w4.heap.size, 2, none⟩ = some (.int .i64 y.s) := (by first | (simp [go_sem]; done) | (simp [go_sem, *]; done))
  have kc3 : w5.cell? ⟨w4.heap.size, 3, none⟩ = some (.string y.t) := (by first | (simp [go_sem]; done) | (simp [go_sem, *]; done))
  have kc4 : w5.cell? ⟨w4.heap.size, 4, none⟩ = some (.int .i64 y.i) := (by first | (simp [go_sem]; done) | (simp [go_sem, *]; done))
  clear qW0_0 rW0_0 q1_0 r1_0 q2_0 r2_0 q3_0 q3_1 r3_0 r3_1 q4_0 q4_1 q4_2 r4_0 r4_1 r4_2 q5_0 q5_1 q5_2 r5_0 r5_1 r5_2
  have hF5 : RdL w5 1 F (fs.map intC) := hF.below (by repeat' (first | (with_reducible exact Below.refl _ _) | (with_reducible assumption) | (with_reducible refine Below.drew ?_) | (with_reducible refine below_drewN ?_ _) | (with_reducible refine below_iterAt ?_ ?_ _ _) | (with_reducible refine below_iter ?_ ?_ _ _) | (with_reducible refine Below.alloc ?_ ?_ _) | (with_reducible refine Below.setCell ?_ ?_ _) | (with_reducible refine Below.trans ?_ (Below.mono (by assumption) ?_)) | (simp only [sz_alloc, sz_set, sz_drew, sz_drewN, sz_iterAt, sz_iter] at *; omega) | omega | (simp; done) | (simp; omega) | (apply Below.size; assumption) | (simp only [sz_drew, sz_drewN]; apply Below.size; assumption) | (refine Nat.le_trans ?_ (Below.size (by assumption)))))
  have hA5 : RdL w5 5 A (os.map Vl.cells5) := hA1.below (by repeat' (first | (with_reducible exact Below.refl _ _) | (with_reducible assumption) | (with_reducible refine Below.drew ?_) | (with_reducible refine below_drewN ?_ _) | (with_reducible refine below_iterAt ?_ ?_ _ _) | (with_reducible refine below_iter ?_ ?_ _ _) | (with_reducible refine Below.alloc ?_ ?_ _) | (with_reducible refine Below.setCell ?_ ?_ _) | (with_reducible refine Below.trans ?_ (Below.mono (by assumption) ?_)) | (simp only [sz_alloc, sz_set, sz_drew, sz_drewN, sz_iterAt, sz_iter] at *; omega) | omega | (simp; done) | (simp; omega) | (apply Below.size; assumption) | (simp only [sz_drew, sz_drewN]; apply Below.size; assumption) | (refine Nat.le_trans ?_ (Below.size (by assumption)))))
  have hbw5 : Below w.heap.size w w5 := (by repeat' (first | (with_reducible exact Below.refl _ _) | (with_reducible assumption) | (with_reducible refine Below.drew ?_) | (with_reducible refine below_drewN ?_ _) | (with_reducible refine below_iterAt ?_ ?_ _ _) | (with_reducible refine below_iter ?_ ?_ _ _) | (with_reducible refine Below.alloc ?_ ?_ _) | (with_reducible refine Below.setCell ?_ ?_ _) | (with_reducible refine Below.trans ?_ (Below.mono (by assumption) ?_)) | (simp only [sz_alloc, sz_set, sz_drew, sz_drewN, sz_iterAt, sz_iter] at *; omega) | omega | (simp; done) | (simp; omega) | (apply Below.size; assumption) | (simp only [sz_drew, sz_drewN]; apply Below.size; assumption) | (refine Nat.le_trans ?_ (Below.size (by assumption)))))
  clear hA hF hE1 hA1 hE hb1 hb2 hb3 hb4 hb5
  have hl4 : w4.heap.size < w5.heap.size := cell_lt kc0
  by_cases hfe : fs.length = 0
  · have hfn : fs = [] := List.length_eq_zero_iff.1 hfe
    have hxy : y = x := by rw [← HX.out, ← HY.out, hfn]; rfl
    have e0 : ((fs.length : Int) == 0) = true := by rw [hfe]; rfl
    clear hfn hfe
    subst hxy
    have hq : ∀ W : World, _ := fun W => (eqV_run y y W).trans (by rw [eqB_self])
    clear hrise hF5 hA5
    go_wp2_with fail
    go_ret
    exact ⟨ret_bool (by rfl), (by repeat' (first | (with_reducible exact Below.refl _ _) | (with_reducible assumption) | (with_reducible refine Below.drew ?_) | (with_reducible refine below_drewN ?_ _) | (with_reducible refine below_iterAt ?_ ?_ _ _) | (with_reducible refine below_iter ?_ ?_ _ _) | (with_reducible refine Below.alloc ?_ ?_ _) | (with_reducible refine Below.setCell ?_ ?_ _) | (with_reducible refine Below.trans ?_ (Below.mono (by assumption) ?_)) | (simp only [sz_alloc, sz_set, sz_drew, sz_drewN, sz_iterAt, sz_iter] at *; omega) | omega | (simp; done) | (simp; omega) | (apply Below.size; assumption) | (simp only [sz_drew, sz_drewN]; apply Below.size; assumption) | (refine Nat.le_trans ?_ (Below.size (by assumption)))))⟩
  · have e0 : ((fs.length : Int) == 0) = false := by rw [beq_eq_false_iff_ne]; omega
    obtain ⟨ps, hps⟩ : ∃ ps, fs.map (pickV os) = ps := ⟨_, rfl⟩
    have hpl : ps.length = fs.length := by rw [← hps]; exact List.length_map _
    have hpg : ∀ j (h : j < fs.length) (h2 : j < ps.length), ps[j]'h2 = pickV os (fs[j]'h) := by intro j h h2; subst hps; simp
    obtain ⟨o, hyf⟩ : ∃ o, y = firstV o ps os := by
      rw [← HY.out, ← hps]
      cases fs with
      | nil => exact absurd rfl hfe
      | cons f fr => exact ⟨_, rfl⟩
    have HPL := Lib.hid hpl
    have HPG := Lib.hid hpg
    have HYF := Lib.hid hyf
    have HFE := Lib.hid hfe
    clear hps hpl hpg hyf hfe HX HX2 HY
    go_wp2_with fail
    clear e0
    go_loopg [14] os.length (fun k iv wr => ∃ i : Nat, i ≤ os.length ∧ os.length - i ≤ k ∧ iv = .int .i64 i ∧ (∀ i' (h : i' < os.length), i' < i → ps.any (fun z => eqB (os[i']'h) z) = false) ∧ Hid (y = firstV o ps (os.drop i)) ∧ Below w5.heap.size w5 wr)
    case atStart => exact ⟨0, by omega, by omega, rfl, fun i' h h' => absurd h' (by omega), HYF, Below.refl _ _⟩
    case round =>
      obtain ⟨i, hi, hik, rfl, hbefore, hyd, hbel⟩ := hrel
      have HB := Lib.hid hbefore
      clear hbefore
      by_cases hil : i < os.length
      · have h1 : (i : Int) < (os.length : Int) := by omega
        have hno := fun h => firstV_no (o := o) (os := ps) hil h
        have hyes := fun h => firstV_yes (o := o) (os := ps) hil h
        obtain ⟨v, hv⟩ : ∃ v, os[i]'hil = v := ⟨_, rfl⟩
        rw [hv] at hno hyes
        have HNO := Lib.hid hno
        have HYES := Lib.hid hyes
        have HV := Lib.hid hv
        clear hno hyes hv
        go_wp2_with fail
        go_loopg [15] fs.length (fun k jv wq => ∃ j : Nat, j ≤ fs.length ∧ fs.length - j ≤ k ∧ jv = .int .i64 j ∧ (ps.take j).any (fun z => eqB v z) = false ∧ Below wr.heap.size wr wq)
        case atStart => exact ⟨0, by omega, by omega, rfl, by simp, Below.refl _ _⟩
        case round =>
          obtain ⟨j, hj, hjk, rfl, hnone, hbq⟩ := hrel
          have HN := Lib.hid hnone
          clear hnone
          have hz := hbel.size
          have hz2 := hbq.size
          have hbz : Below w5.heap.size w5 _ := hbel.trans (hbq.mono hz)
          by_cases hjl : j < fs.length
          · have h2 : (j : Int) < (fs.length : Int) := by omega
            have hjp : j < ps.length := by rw [HPL.out]; exact hjl
            have hsuc := any_take_succ (p := fun z => eqB v z) hjp
            rw [HPG.out j hjl hjp] at hsuc
            have hget := List.getElem_mem hjp
            rw [HPG.out j hjl hjp] at hget
            obtain ⟨bF, oF, rfl, hxF⟩ := (hF5.below hbz).at_ hjl
            have g0 := hxF.get 0 rfl
            rw [Nat.mul_one, Nat.add_zero] at g0
            have hx0 := hrise.lo _ (List.getElem_mem hjl)
            have hx1 := hrise.hi _ (List.getElem_mem hjl)
            generalize fs[j]'hjl = n at *
            obtain ⟨n', rfl⟩ : ∃ n' : Nat, n = (n' : Int) := ⟨n.toNat, by omega⟩
            have hnl : n' < os.length := by omega
            have hpk : pickV os (n' : Int) = os[n']'hnl := by unfold pickV; rw [Int.toNat_natCast, List.getElem?_eq_getElem hnl]; rfl
            rw [hpk] at hsuc hget
            obtain ⟨b, off, rfl, hxA⟩ := (hA5.below hbz).at_ hnl
            obtain ⟨b2, off2, e2, hxB⟩ := (hA5.below hbz).at_ hil
            cases e2
            rw [HV.out] at hxB
            generalize os[n']'hnl = u at *
            have a0 := hxA.get 0 rfl
            have a1 := hxA.get 1 rfl
            have a2 := hxA.get 2 rfl
            have a3 := hxA.get 3 rfl
            have a4 := hxA.get 4 rfl
            have b0 := hxB.get 0 rfl
            have b1 := hxB.get 1 rfl
            have b2 := hxB.get 2 rfl
            have b3 := hxB.get 3 rfl
            have b4 := hxB.get 4 rfl
            rw [Nat.add_zero] at a0 b0
            have c0 := cell_below hbz kc0
            have c1 := cell_below hbz kc1
            have c2 := cell_below hbz kc2
            have c3 := cell_below hbz kc3
            have c4 := cell_below hbz kc4
            have i1 : (0 : Int) ≤ (j : Int) := by omega
            have i2 : (0 : Int) ≤ (i : Int) := by omega
            have i3 : (0 : Int) ≤ (n' : Int) := by omega
            have i4 : (n' : Int) < (os.length : Int) := by omega
            have HS := Lib.hid hsuc
            have HG := Lib.hid hget
            clear hsuc hget hxF hxA hxB hx0 hx1 hpk
            have hq := fun W : World => eqV_run u v W
            cases hm : eqB u v
            · rw [hm] at hq
              have hm2 : eqB v u = false := (eqB_comm v u).trans hm
              have HM := Lib.hid hm2
              clear hm hm2
              go_wp2_with fail
              go_quiet (fail)
              go_wp2_with fail
              go_roundg (fs.length - (j + 1))
              case measure => omega
              case rel => exact ⟨j + 1, by omega, by omega, by go_num, by rw [HS.out, HN.out, HM.out]; rfl, (by repeat' (first | (with_reducible exact Below.refl _ _) | (with_reducible assumption) | (with_reducible refine Below.drew ?_) | (with_reducible refine below_drewN ?_ _) | (with_reducible refine below_iterAt ?_ ?_ _ _) | (with_reducible refine below_iter ?_ ?_ _ _) | (with_reducible refine Below.alloc ?_ ?_ _) | (with_reducible refine Below.setCell ?_ ?_ _) | (with_reducible refine Below.trans ?_ (Below.mono (by assumption) ?_)) | (simp only [sz_alloc, sz_set, sz_drew, sz_drewN, sz_iterAt, sz_iter] at *; omega) | omega | (simp; done) | (simp; omega) | (apply Below.size; assumption) | (simp only [sz_drew, sz_drewN]; apply Below.size; assumption) | (refine Nat.le_trans ?_ (Below.size (by assumption)))))⟩
            · rw [hm] at hq
              have hm2 : eqB v u = true := (eqB_comm v u).trans hm
              have hany : ps.any (fun z => eqB v z) = true := List.any_eq_true.2 ⟨u, HG.out, hm2⟩
              have hyv : y = v := hyd.out.trans (HYES.out hany)
              clear hm hm2 hany
              subst hyv
              have hq2 : ∀ W : World, _ := fun W => (eqV_run y y W).trans (by rw [eqB_self])
              go_wp2_with fail
              go_quiet (fail)
              go_wp2_with fail
              go_quiet (fail)
              go_wp2_with fail
              go_ret
              exact ⟨ret_bool (by rfl), (by repeat' (first | (with_reducible exact Below.refl _ _) | (with_reducible assumption) | (with_reducible refine Below.drew ?_) | (with_reducible refine below_drewN ?_ _) | (with_reducible refine below_iterAt ?_ ?_ _ _) | (with_reducible refine below_iter ?_ ?_ _ _) | (with_reducible refine Below.alloc ?_ ?_ _) | (with_reducible refine Below.setCell ?_ ?_ _) | (with_reducible refine Below.trans ?_ (Below.mono (by assumption) ?_)) | (simp only [sz_alloc, sz_set, sz_drew, sz_drewN, sz_iterAt, sz_iter] at *; omega) | omega | (simp; done) | (simp; omega) | (apply Below.size; assumption) | (simp only [sz_drew, sz_drewN]; apply Below.size; assumption) | (refine Nat.le_trans ?_ (Below.size (by assumption)))))⟩
          · have hje : j = fs.length := by omega
            have hall : ps.any (fun z => eqB v z) = false := by have := HN.out; rw [List.take_of_length_le (by rw [HPL.out]; omega)] at this; exact this
            have HA2 := Lib.hid hall
            have HD := Lib.hid (HNO.out hall)
            clear hall
            have h3 : ¬ ((j : Int) < (fs.length : Int)) := by omega
            go_wp2_with fail
            go_roundg (os.length - (i + 1))
            case measure => omega
            case rel =>
              refine ⟨i + 1, by omega, by omega, by go_num, ?_, hyd.out.trans HD.out, (by repeat' (first | (with_reducible exact Below.refl _ _) | (with_reducible assumption) | (with_reducible refine Below.drew ?_) | (with_reducible refine below_drewN ?_ _) | (with_reducible refine below_iterAt ?_ ?_ _ _) | (with_reducible refine below_iter ?_ ?_ _ _) | (with_reducible refine Below.alloc ?_ ?_ _) | (with_reducible refine Below.setCell ?_ ?_ _) | (with_reducible refine Below.trans ?_ (Below.mono (by assumption) ?_)) | (simp only [sz_alloc, sz_set, sz_drew, sz_drewN, sz_iterAt, sz_iter] at *; omega) | omega | (simp; done) | (simp; omega) | (apply Below.size; assumption) | (simp only [sz_drew, sz_drewN]; apply Below.size; assumption) | (refine Nat.le_trans ?_ (Below.size (by assumption)))))⟩
              intro i' h h'
              rcases Nat.lt_or_ge i' i with h4 | h4
              · exact HB.out i' h h4
              · have h5 : i' = i := by omega
                subst h5
                rw [HV.out]; exact HA2.out
      · exfalso
        have hfp : 0 < fs.length := by have := HFE.out; omega
        have hpp : 0 < ps.length := by rw [HPL.out]; exact hfp
        have hx0 := hrise.lo _ (List.getElem_mem hfp)
        have hx1 := hrise.hi _ (List.getElem_mem hfp)
        have h6 : (fs[0]'hfp).toNat < os.length := by omega
        have h7 := HB.out _ h6 (by omega)
        have h8 : pickV os (fs[0]'hfp) = os[(fs[0]'hfp).toNat]'h6 := by unfold pickV; rw [List.getElem?_eq_getElem h6]; rfl
        rw [← h8, ← HPG.out 0 hfp hpp] at h7
        have h9 : ps.any (fun z => eqB (ps[0]'hpp) z) = true := List.any_eq_true.2 ⟨_, List.getElem_mem hpp, eqB_self _⟩
        rw [h9] at h7; cases h7

theorem lawFirst_any (os : List Vl) (df : Vl) (m : Int) (A : Option Addr) (ca : Nat) (w : World) (hA : RdL w 5 A (os.map Vl.cells5)) (hos : ∀ v ∈ os, v.wf) (hdf : df.wf) (n1 : os.length ≤ 9223372036854775807) (hE : Env w) :
    Calls Tryd.prog 7 #[.slice A os.length ca, .agg #[.int .i64 df.k, .int .i64 df.n, .int .i64 df.s, .string df.t, .int .i64 df.i], .int .u16 m] w fun e w' => e = .returned (.bool true) ∧ Below w.heap.size w w' := by
  have h : sndAll os [] df = sndAll os os df := by unfold sndAll; rw [allSnd_nil]; cases allSnd os <;> rfl
  cases hs : sndAll os [] df
  · exact first_no os df m A ca w hA hos hdf n1 hE hs (h.symm.trans hs)
  · exact first_yes os df m A ca w hA hos hdf n1 hE hs (h.symm.trans hs)
end Go.Proofs.YtfhmjkdpohepaaaDoor
