/- soffitlaw17.awake, walked. -/
import Derived.Test.YtfhmjkdpohepaaaDoorOutc
set_option linter.unusedSimpArgs false
set_option linter.unusedVariables false
namespace Go.Proofs.YtfhmjkdpohepaaaDoor
open Go.RowKit

def bF : Vl := ⟨3, 0, 0, ⟨#[]⟩, 0⟩
def bT : Vl := ⟨3, 0, 0, ⟨#[]⟩, 1⟩
def twoV : Vl := ⟨1, 2, 0, ⟨#[]⟩, 0⟩
theorem b_wf {i : Int} (h : 0 ≤ i ∧ i ≤ 1) : (⟨3, 0, 0, ⟨#[]⟩, i⟩ : Vl).wf := ⟨by unfold I64; simp, by unfold I64; simp, by unfold I64; simp, by unfold I64; simp; omega, by show (0 : Nat) ≤ 9223372036854775807; omega⟩
theorem b_snd {i : Int} (h : i = 0 ∨ i = 1) : sndB ⟨3, 0, 0, ⟨#[]⟩, i⟩ = true := by
  unfold sndB
  simp [nil_toList, h]
theorem aw_all : sndAll [bF, bT] [] Vl.zero = true := by
  have h1 : sndB bF = true := b_snd (Or.inl rfl)
  have h2 : sndB bT = true := b_snd (Or.inr rfl)
  unfold sndAll
  rw [allSnd_zero, allSnd_nil]
  unfold allSnd
  simp [h1, h2]
theorem aw_wf : ∀ v ∈ [bF, bT], v.wf := by
  intro v hv
  rcases List.mem_cons.1 hv with rfl | hv
  · exact b_wf (by omega)
  · have e : v = bT := by simpa using hv
    rw [e]; exact b_wf (by omega)
theorem nil_wf : ∀ v ∈ ([] : List Vl), v.wf := by simp
theorem aw_rise : Rise 2 [0, 1] := ⟨by simp, by simp, fun i h => by
  have : i = 0 := by simp at h; omega
  subst this; simp⟩
theorem eqB_self (v : Vl) : eqB v v = true := (eqB_iff v v).2 rfl

set_option maxRecDepth 100000 in
set_option maxHeartbeats 3200000 in
theorem awake17_any (w : World) (hE : Env w) :
    Calls Tryd.prog 11 #[] w fun e w' => e = .returned (.bool true) ∧ Below w.heap.size w w' := by
  have c1 : resF [bF, bT] Vl.zero [0, 1] = bF := rfl
  have c2 : resU [bF, bT] Vl.zero [0, 1] = Vl.zero := rfl
  have q1 : ∀ W : World, (binOp .eql 26 (.agg #[.int .i64 3, .int .i64 0, .int .i64 0, .string ⟨#[]⟩, .int .i64 0]) (.agg #[.int .i64 3, .int .i64 0, .int .i64 0, .string ⟨#[]⟩, .int .i64 0])).run Tryd.prog W = .ok (.bool true) W := fun W => (eqV_run bF bF W).trans (by rw [eqB_self])
  have q2 : ∀ W : World, (binOp .eql 26 (.agg #[.int .i64 0, .int .i64 0, .int .i64 0, .string ⟨#[]⟩, .int .i64 0]) (.agg #[.int .i64 0, .int .i64 0, .int .i64 0, .string ⟨#[]⟩, .int .i64 0])).run Tryd.prog W = .ok (.bool true) W := fun W => (eqV_run Vl.zero Vl.zero W).trans (by rw [eqB_self])
  have q3 : ∀ W : World, (binOp .eql 26 (.agg #[.int .i64 1, .int .i64 2, .int .i64 0, .string ⟨#[]⟩, .int .i64 0]) (.agg #[.int .i64 1, .int .i64 2, .int .i64 0, .string ⟨#[]⟩, .int .i64 0])).run Tryd.prog W = .ok (.bool true) W := fun W => (eqV_run twoV twoV W).trans (by rw [eqB_self])
  go_enter Tryd.func11, Tryd.ntmps11
  go_wp2_with fail
  generalize hEW0 : (w.alloc _).alloc _ = W0
  have hbW0 : Below w.heap.size w W0 := (by rw [← hEW0]; exact (by repeat' (first | (with_reducible exact Below.refl _ _) | (with_reducible assumption) | (with_reducible refine Below.drew ?_) | (with_reducible refine below_drewN ?_ _) | (with_reducible refine below_iterAt ?_ ?_ _ _) | (with_reducible refine below_iter ?_ ?_ _ _) | (with_reducible refine Below.alloc ?_ ?_ _) | (with_reducible refine Below.setCell ?_ ?_ _) | (with_reducible refine Below.trans ?_ (Below.mono (by assumption) ?_)) | (simp only [sz_alloc, sz_set, sz_drew, sz_drewN, sz_iterAt, sz_iter] at *; omega) | omega | (simp; done) | (simp; omega) | (apply Below.size; assumption) | (simp only [sz_drew, sz_drewN]; apply Below.size; assumption) | (refine Nat.le_trans ?_ (Below.size (by assumption))))))
  have lW0_0 : w.heap.size < W0.heap.size := (by rw [← hEW0]; first | omega | (simp only [sz_alloc, sz_set, sz_drew, sz_drewN, sz_iterAt, sz_iter] at *; omega) | (simp; done) | (simp; omega) | (simp at *; omega))
  have qW0_0 : ∀ o, W0.cell? ⟨w.heap.size, o, none⟩ = _ := fun o => congrArg (fun W : World => W.cell? ⟨w.heap.size, o, none⟩) hEW0.symm
  have rW0_0 : ∀ o, W0.frozen? ⟨w.heap.size, o, none⟩ = _ := fun o => congrArg (fun W : World => W.frozen? ⟨w.heap.size, o, none⟩) hEW0.symm
  have lW0_1 : w.heap.size + 1 < W0.heap.size := (by rw [← hEW0]; first | omega | (simp only [sz_alloc, sz_set, sz_drew, sz_drewN, sz_iterAt, sz_iter] at *; omega) | (simp; done) | (simp; omega) | (simp at *; omega))
  have qW0_1 : ∀ o, W0.cell? ⟨w.heap.size + 1, o, none⟩ = _ := fun o => congrArg (fun W : World => W.cell? ⟨w.heap.size + 1, o, none⟩) hEW0.symm
  have rW0_1 : ∀ o, W0.frozen? ⟨w.heap.size + 1, o, none⟩ = _ := fun o => congrArg (fun W : World => W.frozen? ⟨w.heap.size + 1, o, none⟩) hEW0.symm
  clear hEW0
  have hA0 : RdL W0 5 (some ⟨w.heap.size, 0, none⟩) ([bF, bT].map Vl.cells5) := rdL_two rfl (fun o => by rw [qW0_0 o]; simp [go_sem]; rfl)
  have hF0 : RdL W0 1 (some ⟨w.heap.size + 1, 0, none⟩) ([(0 : Int), 1].map intC) := rdL_two rfl (fun o => by rw [qW0_1 o]; simp [go_sem]; rfl)
  refine (outF_any [bF, bT] [] Vl.zero [0, 1] _ none _ 2 0 2 W0 hA0 (RdL.nil_ _ _ _) hF0 aw_wf nil_wf zero_wf aw_rise (by simp) (by simp) (by simp) (hE.below hbW0) aw_all).mono ?_
  rintro e w1 ⟨rfl, hb1⟩
  rw [c1]
  obtain ⟨hc1, hf1⟩ := bcell hb1
  have hz1 := hb1.size
  try simp at hz1
  have q1_0 := fun o => hc1 (w.heap.size) o (by first | omega | (simp only [sz_alloc, sz_set, sz_drew, sz_drewN, sz_iterAt, sz_iter] at *; omega) | (simp; done) | (simp; omega) | (simp at *; omega))
  have l1_0 : w.heap.size < w1.heap.size := by omega
  have r1_0 := fun o => hf1 (w.heap.size) o (by first | omega | (simp only [sz_alloc, sz_set, sz_drew, sz_drewN, sz_iterAt, sz_iter] at *; omega) | (simp; done) | (simp; omega) | (simp at *; omega))
  clear hc1 hf1
  have hA1 := hA0.below hb1
  go_wp2_with fail
  generalize hEW2 : (w1.alloc _).alloc _ = W2
  have hbW2 : Below w.heap.size w W2 := (by rw [← hEW2]; exact (by repeat' (first | (with_reducible exact Below.refl _ _) | (with_reducible assumption) | (with_reducible refine Below.drew ?_) | (with_reducible refine below_drewN ?_ _) | (with_reducible refine below_iterAt ?_ ?_ _ _) | (with_reducible refine below_iter ?_ ?_ _ _) | (with_reducible refine Below.alloc ?_ ?_ _) | (with_reducible refine Below.setCell ?_ ?_ _) | (with_reducible refine Below.trans ?_ (Below.mono (by assumption) ?_)) | (simp only [sz_alloc, sz_set, sz_drew, sz_drewN, sz_iterAt, sz_iter] at *; omega) | omega | (simp; done) | (simp; omega) | (apply Below.size; assumption) | (simp only [sz_drew, sz_drewN]; apply Below.size; assumption) | (refine Nat.le_trans ?_ (Below.size (by assumption))))))
  have lW2_0 : w.heap.size < W2.heap.size := (by rw [← hEW2]; first | omega | (simp only [sz_alloc, sz_set, sz_drew, sz_drewN, sz_iterAt, sz_iter] at *; omega) | (simp; done) | (simp; omega) | (simp at *; omega))
  have qW2_0 : ∀ o, W2.cell? ⟨w.heap.size, o, none⟩ = _ := fun o => congrArg (fun W : World => W.cell? ⟨w.heap.size, o, none⟩) hEW2.symm
  have rW2_0 : ∀ o, W2.frozen? ⟨w.heap.size, o, none⟩ = _ := fun o => congrArg (fun W : World => W.frozen? ⟨w.heap.size, o, none⟩) hEW2.symm
  have lW2_1 : w1.heap.size < W2.heap.size := (by rw [← hEW2]; first | omega | (simp only [sz_alloc, sz_set, sz_drew, sz_drewN, sz_iterAt, sz_iter] at *; omega) | (simp; done) | (simp; omega) | (simp at *; omega))
  have qW2_1 : ∀ o, W2.cell? ⟨w1.heap.size, o, none⟩ = _ := fun o => congrArg (fun W : World => W.cell? ⟨w1.heap.size, o, none⟩) hEW2.symm
  have rW2_1 : ∀ o, W2.frozen? ⟨w1.heap.size, o, none⟩ = _ := fun o => congrArg (fun W : World => W.frozen? ⟨w1.heap.size, o, none⟩) hEW2.symm
  have lW2_2 : w1.heap.size + 1 < W2.heap.size := (by rw [← hEW2]; first | omega | (simp only [sz_alloc, sz_set, sz_drew, sz_drewN, sz_iterAt, sz_iter] at *; omega) | (simp; done) | (simp; omega) | (simp at *; omega))
  have qW2_2 : ∀ o, W2.cell? ⟨w1.heap.size + 1, o, none⟩ = _ := fun o => congrArg (fun W : World => W.cell? ⟨w1.heap.size + 1, o, none⟩) hEW2.symm
  have rW2_2 : ∀ o, W2.frozen? ⟨w1.heap.size + 1, o, none⟩ = _ := fun o => congrArg (fun W : World => W.frozen? ⟨w1.heap.size + 1, o, none⟩) hEW2.symm
  clear hEW2
  have hF2 : RdL W2 1 (some ⟨w1.heap.size + 1, 0, none⟩) ([(0 : Int), 1].map intC) := rdL_two rfl (fun o => by rw [qW2_2 o]; simp [go_sem]; rfl)
  have hA2 : RdL W2 5 (some ⟨w.heap.size, 0, none⟩) ([bF, bT].map Vl.cells5) := rdL_two rfl (fun o => by rw [qW2_0 o]; simp [go_sem, *]; rfl)
  refine (outU_any [bF, bT] [] Vl.zero [0, 1] _ none _ 2 0 2 W2 hA2 (RdL.nil_ _ _ _) hF2 aw_wf nil_wf zero_wf aw_rise (by simp) (by simp) (by simp) (hE.below hbW2) aw_all).mono ?_
  rintro e w3 ⟨rfl, hb3⟩
  rw [c2]
  obtain ⟨hc3, hf3⟩ := bcell hb3
  have hz3 := hb3.size
  try simp at hz3
  have q3_0 := fun o => hc3 (w.heap.size) o (by first | omega | (simp only [sz_alloc, sz_set, sz_drew, sz_drewN, sz_iterAt, sz_iter] at *; omega) | (simp; done) | (simp; omega) | (simp at *; omega))
  have l3_0 : w.heap.size < w3.heap.size := by omega
  have r3_0 := fun o => hf3 (w.heap.size) o (by first | omega | (simp only [sz_alloc, sz_set, sz_drew, sz_drewN, sz_iterAt, sz_iter] at *; omega) | (simp; done) | (simp; omega) | (simp at *; omega))
  have q3_1 := fun o => hc3 (w1.heap.size) o (by first | omega | (simp only [sz_alloc, sz_set, sz_drew, sz_drewN, sz_iterAt, sz_iter] at *; omega) | (simp; done) | (simp; omega) | (simp at *; omega))
  have l3_1 : w1.heap.size < w3.heap.size := by omega
  have r3_1 := fun o => hf3 (w1.heap.size) o (by first | omega | (simp only [sz_alloc, sz_set, sz_drew, sz_drewN, sz_iterAt, sz_iter] at *; omega) | (simp; done) | (simp; omega) | (simp at *; omega))
  clear hc3 hf3
  go_wp2_with fail
  generalize hEW4 : (w3.alloc _).alloc _ = W4
  have hbW4 : Below w.heap.size w W4 := (by rw [← hEW4]; exact (by repeat' (first | (with_reducible exact Below.refl _ _) | (with_reducible assumption) | (with_reducible refine Below.drew ?_) | (with_reducible refine below_drewN ?_ _) | (with_reducible refine below_iterAt ?_ ?_ _ _) | (with_reducible refine below_iter ?_ ?_ _ _) | (with_reducible refine Below.alloc ?_ ?_ _) | (with_reducible refine Below.setCell ?_ ?_ _) | (with_reducible refine Below.trans ?_ (Below.mono (by assumption) ?_)) | (simp only [sz_alloc, sz_set, sz_drew, sz_drewN, sz_iterAt, sz_iter] at *; omega) | omega | (simp; done) | (simp; omega) | (apply Below.size; assumption) | (simp only [sz_drew, sz_drewN]; apply Below.size; assumption) | (refine Nat.le_trans ?_ (Below.size (by assumption))))))
  have lW4_0 : w.heap.size < W4.heap.size := (by rw [← hEW4]; first | omega | (simp only [sz_alloc, sz_set, sz_drew, sz_drewN, sz_iterAt, sz_iter] at *; omega) | (simp; done) | (simp; omega) | (simp at *; omega))
  have qW4_0 : ∀ o, W4.cell? ⟨w.heap.size, o, none⟩ = _ := fun o => congrArg (fun W : World => W.cell? ⟨w.heap.size, o, none⟩) hEW4.symm
  have rW4_0 : ∀ o, W4.frozen? ⟨w.heap.size, o, none⟩ = _ := fun o => congrArg (fun W : World => W.frozen? ⟨w.heap.size, o, none⟩) hEW4.symm
  have lW4_1 : w1.heap.size < W4.heap.size := (by rw [← hEW4]; first | omega | (simp only [sz_alloc, sz_set, sz_drew, sz_drewN, sz_iterAt, sz_iter] at *; omega) | (simp; done) | (simp; omega) | (simp at *; omega))
  have qW4_1 : ∀ o, W4.cell? ⟨w1.heap.size, o, none⟩ = _ := fun o => congrArg (fun W : World => W.cell? ⟨w1.heap.size, o, none⟩) hEW4.symm
  have rW4_1 : ∀ o, W4.frozen? ⟨w1.heap.size, o, none⟩ = _ := fun o => congrArg (fun W : World => W.frozen? ⟨w1.heap.size, o, none⟩) hEW4.symm
  have lW4_2 : w3.heap.size < W4.heap.size := (by rw [← hEW4]; first | omega | (simp only [sz_alloc, sz_set, sz_drew, sz_drewN, sz_iterAt, sz_iter] at *; omega) | (simp; done) | (simp; omega) | (simp at *; omega))
  have qW4_2 : ∀ o, W4.cell? ⟨w3.heap.size, o, none⟩ = _ := fun o => congrArg (fun W : World => W.cell? ⟨w3.heap.size, o, none⟩) hEW4.symm
  have rW4_2 : ∀ o, W4.frozen? ⟨w3.heap.size, o, none⟩ = _ := fun o => congrArg (fun W : World => W.frozen? ⟨w3.heap.size, o, none⟩) hEW4.symm
  have lW4_3 : w3.heap.size + 1 < W4.heap.size := (by rw [← hEW4]; first | omega | (simp only [sz_alloc, sz_set, sz_drew, sz_drewN, sz_iterAt, sz_iter] at *; omega) | (simp; done) | (simp; omega) | (simp at *; omega))
  have qW4_3 : ∀ o, W4.cell? ⟨w3.heap.size + 1, o, none⟩ = _ := fun o => congrArg (fun W : World => W.cell? ⟨w3.heap.size + 1, o, none⟩) hEW4.symm
  have rW4_3 : ∀ o, W4.frozen? ⟨w3.heap.size + 1, o, none⟩ = _ := fun o => congrArg (fun W : World => W.frozen? ⟨w3.heap.size + 1, o, none⟩) hEW4.symm
  clear hEW4
  have hF4 : RdL W4 1 (some ⟨w3.heap.size + 1, 0, none⟩) ([(0 : Int), 1].map intC) := rdL_two rfl (fun o => by rw [qW4_3 o]; simp [go_sem]; rfl)
  have hA4 : RdL W4 5 (some ⟨w.heap.size, 0, none⟩) ([bF, bT].map Vl.cells5) := rdL_two rfl (fun o => by rw [qW4_0 o]; simp [go_sem, *]; rfl)
  have hk := sndAll_yes aw_all
  refine (outCount [bF, bT] [] Vl.zero [0, 1] _ none _ 2 0 2 W4 hA4 (RdL.nil_ _ _ _) hF4 aw_wf nil_wf zero_wf aw_rise (by simp) (by simp) (by simp) (hE.below hbW4) hk.1 hk.2.1 hk.2.2).mono ?_
  rintro e w5 ⟨rfl, hb5⟩
  obtain ⟨hc5, hf5⟩ := bcell hb5
  have hz5 := hb5.size
  try simp at hz5
  have q5_0 := fun o => hc5 (w.heap.size) o (by first | omega | (simp only [sz_alloc, sz_set, sz_drew, sz_drewN, sz_iterAt, sz_iter] at *; omega) | (simp; done) | (simp; omega) | (simp at *; omega))
  have l5_0 : w.heap.size < w5.heap.size := by omega
  have r5_0 := fun o => hf5 (w.heap.size) o (by first | omega | (simp only [sz_alloc, sz_set, sz_drew, sz_drewN, sz_iterAt, sz_iter] at *; omega) | (simp; done) | (simp; omega) | (simp at *; omega))
  have q5_1 := fun o => hc5 (w1.heap.size) o (by first | omega | (simp only [sz_alloc, sz_set, sz_drew, sz_drewN, sz_iterAt, sz_iter] at *; omega) | (simp; done) | (simp; omega) | (simp at *; omega))
  have l5_1 : w1.heap.size < w5.heap.size := by omega
  have r5_1 := fun o => hf5 (w1.heap.size) o (by first | omega | (simp only [sz_alloc, sz_set, sz_drew, sz_drewN, sz_iterAt, sz_iter] at *; omega) | (simp; done) | (simp; omega) | (simp at *; omega))
  have q5_2 := fun o => hc5 (w3.heap.size) o (by first | omega | (simp only [sz_alloc, sz_set, sz_drew, sz_drewN, sz_iterAt, sz_iter] at *; omega) | (simp; done) | (simp; omega) | (simp at *; omega))
  have l5_2 : w3.heap.size < w5.heap.size := by omega
  have r5_2 := fun o => hf5 (w3.heap.size) o (by first | omega | (simp only [sz_alloc, sz_set, sz_drew, sz_drewN, sz_iterAt, sz_iter] at *; omega) | (simp; done) | (simp; omega) | (simp at *; omega))
  clear hc5 hf5
  clear hA0 hA1 hA2 hA4 hF0 hF2 hF4 hk c1 c2
  go_wp2_with fail
  generalize hEW6 : w5.alloc _ = W6
  have hbW6 : Below w.heap.size w W6 := (by rw [← hEW6]; exact (by repeat' (first | (with_reducible exact Below.refl _ _) | (with_reducible assumption) | (with_reducible refine Below.drew ?_) | (with_reducible refine below_drewN ?_ _) | (with_reducible refine below_iterAt ?_ ?_ _ _) | (with_reducible refine below_iter ?_ ?_ _ _) | (with_reducible refine Below.alloc ?_ ?_ _) | (with_reducible refine Below.setCell ?_ ?_ _) | (with_reducible refine Below.trans ?_ (Below.mono (by assumption) ?_)) | (simp only [sz_alloc, sz_set, sz_drew, sz_drewN, sz_iterAt, sz_iter] at *; omega) | omega | (simp; done) | (simp; omega) | (apply Below.size; assumption) | (simp only [sz_drew, sz_drewN]; apply Below.size; assumption) | (refine Nat.le_trans ?_ (Below.size (by assumption))))))
  have lW6_0 : w.heap.size < W6.heap.size := (by rw [← hEW6]; first | omega | (simp only [sz_alloc, sz_set, sz_drew, sz_drewN, sz_iterAt, sz_iter] at *; omega) | (simp; done) | (simp; omega) | (simp at *; omega))
  have qW6_0 : ∀ o, W6.cell? ⟨w.heap.size, o, none⟩ = _ := fun o => congrArg (fun W : World => W.cell? ⟨w.heap.size, o, none⟩) hEW6.symm
  have rW6_0 : ∀ o, W6.frozen? ⟨w.heap.size, o, none⟩ = _ := fun o => congrArg (fun W : World => W.frozen? ⟨w.heap.size, o, none⟩) hEW6.symm
  have lW6_1 : w1.heap.size < W6.heap.size := (by rw [← hEW6]; first | omega | (simp only [sz_alloc, sz_set, sz_drew, sz_drewN, sz_iterAt, sz_iter] at *; omega) | (simp; done) | (simp; omega) | (simp at *; omega))
  have qW6_1 : ∀ o, W6.cell? ⟨w1.heap.size, o, none⟩ = _ := fun o => congrArg (fun W : World => W.cell? ⟨w1.heap.size, o, none⟩) hEW6.symm
  have rW6_1 : ∀ o, W6.frozen? ⟨w1.heap.size, o, none⟩ = _ := fun o => congrArg (fun W : World => W.frozen? ⟨w1.heap.size, o, none⟩) hEW6.symm
  have lW6_2 : w3.heap.size < W6.heap.size := (by rw [← hEW6]; first | omega | (simp only [sz_alloc, sz_set, sz_drew, sz_drewN, sz_iterAt, sz_iter] at *; omega) | (simp; done) | (simp; omega) | (simp at *; omega))
  have qW6_2 : ∀ o, W6.cell? ⟨w3.heap.size, o, none⟩ = _ := fun o => congrArg (fun W : World => W.cell? ⟨w3.heap.size, o, none⟩) hEW6.symm
  have rW6_2 : ∀ o, W6.frozen? ⟨w3.heap.size, o, none⟩ = _ := fun o => congrArg (fun W : World => W.frozen? ⟨w3.heap.size, o, none⟩) hEW6.symm
  have lW6_3 : w5.heap.size < W6.heap.size := (by rw [← hEW6]; first | omega | (simp only [sz_alloc, sz_set, sz_drew, sz_drewN, sz_iterAt, sz_iter] at *; omega) | (simp; done) | (simp; omega) | (simp at *; omega))
  have qW6_3 : ∀ o, W6.cell? ⟨w5.heap.size, o, none⟩ = _ := fun o => congrArg (fun W : World => W.cell? ⟨w5.heap.size, o, none⟩) hEW6.symm
  have rW6_3 : ∀ o, W6.frozen? ⟨w5.heap.size, o, none⟩ = _ := fun o => congrArg (fun W : World => W.frozen? ⟨w5.heap.size, o, none⟩) hEW6.symm
  clear hEW6
  have va0 : W6.cell? ⟨w.heap.size, 0, none⟩ = some (.int .i64 3) := (by first | (simp [go_sem]; done) | (simp [go_sem, *]; done))
  have va1 : W6.cell? ⟨w.heap.size, 1, none⟩ = some (.int .i64 0) := (by first | (simp [go_sem]; done) | (simp [go_sem, *]; done))
  have va2 : W6.cell? ⟨w.heap.size, 2, none⟩ = some (.int .i64 0) := (by first | (simp [go_sem]; done) | (simp [go_sem, *]; done))
  have va3 : W6.cell? ⟨w.heap.size, 3, none⟩ = some (.string ⟨#[]⟩) := (by first | (simp [go_sem]; done) | (simp [go_sem, *]; done))
  have va4 : W6.cell? ⟨w.heap.size, 4, none⟩ = some (.int .i64 0) := (by first | (simp [go_sem]; done) | (simp [go_sem, *]; done))
  have vb0 : W6.cell? ⟨w1.heap.size, 0, none⟩ = some (.int .i64 3) := (show W6.cell? ⟨w1.heap.size, 0, none⟩ = some (.int .i64 bF.k) from (by first | (simp [go_sem]; done) | (simp [go_sem, *]; done)))
  have vb1 : W6.cell? ⟨w1.heap.size, 1, none⟩ = some (.int .i64 0) := (show W6.cell? ⟨w1.heap.size, 1, none⟩ = some (.int .i64 bF.n) from (by first | (simp [go_sem]; done) | (simp [go_sem, *]; done)))
  have vb2 : W6.cell? ⟨w1.heap.size, 2, none⟩ = some (.int .i64 0) := (show W6.cell? ⟨w1.heap.size, 2, none⟩ = some (.int .i64 bF.s) from (by first | (simp [go_sem]; done) | (simp [go_sem, *]; done)))
  have vb3 : W6.cell? ⟨w1.heap.size, 3, none⟩ = some (.string ⟨#[]⟩) := (show W6.cell? ⟨w1.heap.size, 3, none⟩ = some (.string bF.t) from (by first | (simp [go_sem]; done) | (simp [go_sem, *]; done)))
  have vb4 : W6.cell? ⟨w1.heap.size, 4, none⟩ = some (.int .i64 0) := (show W6.cell? ⟨w1.heap.size, 4, none⟩ = some (.int .i64 bF.i) from (by first | (simp [go_sem]; done) | (simp [go_sem, *]; done)))
  have vc0 : W6.cell? ⟨w3.heap.size, 0, none⟩ = some (.int .i64 0) := (show W6.cell? ⟨w3.heap.size, 0, none⟩ = some (.int .i64 Vl.zero.k) from (by first | (simp [go_sem]; done) | (simp [go_sem, *]; done)))
  have vc1 : W6.cell? ⟨w3.heap.size, 1, none⟩ = some (.int .i64 0) := (show W6.cell? ⟨w3.heap.size, 1, none⟩ = some (.int .i64 Vl.zero.n) from (by first | (simp [go_sem]; done) | (simp [go_sem, *]; done)))
  have vc2 : W6.cell? ⟨w3.heap.size, 2, none⟩ = some (.int .i64 0) := (show W6.cell? ⟨w3.heap.size, 2, none⟩ = some (.int .i64 Vl.zero.s) from (by first | (simp [go_sem]; done) | (simp [go_sem, *]; done)))
  have vc3 : W6.cell? ⟨w3.heap.size, 3, none⟩ = some (.string ⟨#[]⟩) := (show W6.cell? ⟨w3.heap.size, 3, none⟩ = some (.string Vl.zero.t) from (by first | (simp [go_sem]; done) | (simp [go_sem, *]; done)))
  have vc4 : W6.cell? ⟨w3.heap.size, 4, none⟩ = some (.int .i64 0) := (show W6.cell? ⟨w3.heap.size, 4, none⟩ = some (.int .i64 Vl.zero.i) from (by first | (simp [go_sem]; done) | (simp [go_sem, *]; done)))
  have vd0 : W6.cell? ⟨w5.heap.size, 0, none⟩ = some (.int .i64 1) := (by first | (simp [go_sem]; done) | (simp [go_sem, *]; done))
  have vd1 : W6.cell? ⟨w5.heap.size, 1, none⟩ = some (.int .i64 2) := (by first | (simp [go_sem]; done) | (simp [go_sem, *]; done))
  have vd2 : W6.cell? ⟨w5.heap.size, 2, none⟩ = some (.int .i64 0) := (by first | (simp [go_sem]; done) | (simp [go_sem, *]; done))
  have vd3 : W6.cell? ⟨w5.heap.size, 3, none⟩ = some (.string ⟨#[]⟩) := (by first | (simp [go_sem]; done) | (simp [go_sem, *]; done))
  have vd4 : W6.cell? ⟨w5.heap.size, 4, none⟩ = some (.int .i64 0) := (by first | (simp [go_sem]; done) | (simp [go_sem, *]; done))
  clear qW0_0 qW0_1 rW0_0 rW0_1 q1_0 r1_0 qW2_0 qW2_1 qW2_2 rW2_0 rW2_1 rW2_2 q3_0 q3_1 r3_0 r3_1 qW4_0 qW4_1 qW4_2 qW4_3 rW4_0 rW4_1 rW4_2 rW4_3 q5_0 q5_1 q5_2 r5_0 r5_1 r5_2 qW6_0 qW6_1 qW6_2 qW6_3 rW6_0 rW6_1 rW6_2 rW6_3
  go_quiet (fail)
  go_wp2_with fail
  go_ret
  exact ⟨ret_bool rfl, (by repeat' (first | (with_reducible exact Below.refl _ _) | (with_reducible assumption) | (with_reducible refine Below.drew ?_) | (with_reducible refine below_drewN ?_ _) | (with_reducible refine below_iterAt ?_ ?_ _ _) | (with_reducible refine below_iter ?_ ?_ _ _) | (with_reducible refine Below.alloc ?_ ?_ _) | (with_reducible refine Below.setCell ?_ ?_ _) | (with_reducible refine Below.trans ?_ (Below.mono (by assumption) ?_)) | (simp only [sz_alloc, sz_set, sz_drew, sz_drewN, sz_iterAt, sz_iter] at *; omega) | omega | (simp; done) | (simp; omega) | (apply Below.size; assumption) | (simp only [sz_drew, sz_drewN]; apply Below.size; assumption) | (refine Nat.le_trans ?_ (Below.size (by assumption)))))⟩
end Go.Proofs.YtfhmjkdpohepaaaDoor
