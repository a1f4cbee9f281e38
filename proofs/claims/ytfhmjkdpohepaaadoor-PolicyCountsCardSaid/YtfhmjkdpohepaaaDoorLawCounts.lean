/- soffitlaw17.PolicyCounts, walked. -/
import Derived.Test.YtfhmjkdpohepaaaDoorAwake17
set_option linter.unusedSimpArgs false
set_option linter.unusedVariables false
namespace Go.Proofs.YtfhmjkdpohepaaaDoor
open Go.RowKit

def cntV (n : Nat) : Vl := ⟨1, n, 0, ⟨#[]⟩, 0⟩
set_option maxRecDepth 100000 in
set_option maxHeartbeats 3200000 in
theorem lawCounts_any (os : List Vl) (m : Int) (A : Option Addr) (ca : Nat) (w : World) (hA : RdL w 5 A (os.map Vl.cells5)) (hos : ∀ v ∈ os, v.wf) (n1 : os.length ≤ 9223372036854775807) (hE : Env w) :
    Calls Tryd.prog 8 #[.slice A os.length ca, .int .u16 m] w fun e w' => e = .returned (.bool true) ∧ Below w.heap.size w w' := by
  cases hs : allSnd os
  · have hn : sndAll os [] Vl.zero = false := by unfold sndAll; rw [hs]; rfl
    clear hs
    go_enter Tryd.func8, Tryd.ntmps8
    go_wp2_with fail
    refine (pall_any os.length m w n1).mono ?_
    rintro e w1 ⟨fs, F, cf, rfl, hF, hrise, h16, hb1⟩
    go_wp2_with fail
    refine (outNo_any os [] Vl.zero fs A none F ca 0 cf _ (hA.below hb1) (RdL.nil_ _ _ _) hF hos nil_wf zero_wf hrise h16 n1 (by simp) (hE.below hb1) 35 (by decide) hn).mono ?_
    rintro e w2 ⟨rfl, hb2⟩
    have hz1 := hb1.size
    have hz2 := hb2.size
    go_wp2_with fail
    refine (awake17_any _ (hE.below (by repeat' (first | (with_reducible exact Below.refl _ _) | (with_reducible assumption) | (with_reducible refine Below.drew ?_) | (with_reducible refine below_drewN ?_ _) | (with_reducible refine below_iterAt ?_ ?_ _ _) | (with_reducible refine below_iter ?_ ?_ _ _) | (with_reducible refine Below.alloc ?_ ?_ _) | (with_reducible refine Below.setCell ?_ ?_ _) | (with_reducible refine Below.trans ?_ (Below.mono (by assumption) ?_)) | (simp only [sz_alloc, sz_set, sz_drew, sz_drewN, sz_iterAt, sz_iter] at *; omega) | omega | (simp; done) | (simp; omega) | (apply Below.size; assumption) | (simp only [sz_drew, sz_drewN]; apply Below.size; assumption) | (refine Nat.le_trans ?_ (Below.size (by assumption))))))).mono ?_
    rintro e w3 ⟨rfl, hb3⟩
    go_wp2_with fail
    refine (awake17_any _ (hE.below (by repeat' (first | (with_reducible exact Below.refl _ _) | (with_reducible assumption) | (with_reducible refine Below.drew ?_) | (with_reducible refine below_drewN ?_ _) | (with_reducible refine below_iterAt ?_ ?_ _ _) | (with_reducible refine below_iter ?_ ?_ _ _) | (with_reducible refine Below.alloc ?_ ?_ _) | (with_reducible refine Below.setCell ?_ ?_ _) | (with_reducible refine Below.trans ?_ (Below.mono (by assumption) ?_)) | (simp only [sz_alloc, sz_set, sz_drew, sz_drewN, sz_iterAt, sz_iter] at *; omega) | omega | (simp; done) | (simp; omega) | (apply Below.size; assumption) | (simp only [sz_drew, sz_drewN]; apply Below.size; assumption) | (refine Nat.le_trans ?_ (Below.size (by assumption))))))).mono ?_
    rintro e w4 ⟨rfl, hb4⟩
    go_wp2_with fail
    go_ret
    exact ⟨ret_bool rfl, (by repeat' (first | (with_reducible exact Below.refl _ _) | (with_reducible assumption) | (with_reducible refine Below.drew ?_) | (with_reducible refine below_drewN ?_ _) | (with_reducible refine below_iterAt ?_ ?_ _ _) | (with_reducible refine below_iter ?_ ?_ _ _) | (with_reducible refine Below.alloc ?_ ?_ _) | (with_reducible refine Below.setCell ?_ ?_ _) | (with_reducible refine Below.trans ?_ (Below.mono (by assumption) ?_)) | (simp only [sz_alloc, sz_set, sz_drew, sz_drewN, sz_iterAt, sz_iter] at *; omega) | omega | (simp; done) | (simp; omega) | (apply Below.size; assumption) | (simp only [sz_drew, sz_drewN]; apply Below.size; assumption) | (refine Nat.le_trans ?_ (Below.size (by assumption)))))⟩
  · go_enter Tryd.func8, Tryd.ntmps8
    go_wp2_with fail
    refine (pall_any os.length m w n1).mono ?_
    rintro e w1 ⟨fs, F, cf, rfl, hF, hrise, h16, hb1⟩
    go_wp2_with fail
    refine (outCount os [] Vl.zero fs A none F ca 0 cf _ (hA.below hb1) (RdL.nil_ _ _ _) hF hos nil_wf zero_wf hrise h16 n1 (by simp) (hE.below hb1) hs allSnd_nil allSnd_zero).mono ?_
    rintro e w2 ⟨rfl, hb2⟩
    have hz1 := hb1.size
    have hz2 := hb2.size
    clear hF hrise
    have hq := fun W : World => (eqV_run (cntV fs.length) (cntV fs.length) W).trans (by rw [eqB_self])
    generalize fs.length = n at *
    go_wp2_with fail
    generalize hEW2 : w2.alloc _ = W2
    have hbW2 : Below w.heap.size w W2 := (by rw [← hEW2]; exact (by repeat' (first | (with_reducible exact Below.refl _ _) | (with_reducible assumption) | (with_reducible refine Below.drew ?_) | (with_reducible refine below_drewN ?_ _) | (with_reducible refine below_iterAt ?_ ?_ _ _) | (with_reducible refine below_iter ?_ ?_ _ _) | (with_reducible refine Below.alloc ?_ ?_ _) | (with_reducible refine Below.setCell ?_ ?_ _) | (with_reducible refine Below.trans ?_ (Below.mono (by assumption) ?_)) | (simp only [sz_alloc, sz_set, sz_drew, sz_drewN, sz_iterAt, sz_iter] at *; omega) | omega | (simp; done) | (simp; omega) | (apply Below.size; assumption) | (simp only [sz_drew, sz_drewN]; apply Below.size; assumption) | (refine Nat.le_trans ?_ (Below.size (by assumption))))))
    have lW2_0 : w2.heap.size < W2.heap.size := (by rw [← hEW2]; first | omega | (simp only [sz_alloc, sz_set, sz_drew, sz_drewN, sz_iterAt, sz_iter] at *; omega) | (simp; done) | (simp; omega) | (simp at *; omega))
    have qW2_0 : ∀ o, W2.cell? ⟨w2.heap.size, o, none⟩ = _ := fun o => congrArg (fun W : World => W.cell? ⟨w2.heap.size, o, none⟩) hEW2.symm
    have rW2_0 : ∀ o, W2.frozen? ⟨w2.heap.size, o, none⟩ = _ := fun o => congrArg (fun W : World => W.frozen? ⟨w2.heap.size, o, none⟩) hEW2.symm
    clear hEW2
    refine (awake17_any _ (hE.below (by repeat' (first | (with_reducible exact Below.refl _ _) | (with_reducible assumption) | (with_reducible refine Below.drew ?_) | (with_reducible refine below_drewN ?_ _) | (with_reducible refine below_iterAt ?_ ?_ _ _) | (with_reducible refine below_iter ?_ ?_ _ _) | (with_reducible refine Below.alloc ?_ ?_ _) | (with_reducible refine Below.setCell ?_ ?_ _) | (with_reducible refine Below.trans ?_ (Below.mono (by assumption) ?_)) | (simp only [sz_alloc, sz_set, sz_drew, sz_drewN, sz_iterAt, sz_iter] at *; omega) | omega | (simp; done) | (simp; omega) | (apply Below.size; assumption) | (simp only [sz_drew, sz_drewN]; apply Below.size; assumption) | (refine Nat.le_trans ?_ (Below.size (by assumption))))))).mono ?_
    rintro e w3 ⟨rfl, hb3⟩
    obtain ⟨hc3, hf3⟩ := bcell hb3
    have hz3 := hb3.size
    try simp at hz3
    have q3_0 := fun o => hc3 (w2.heap.size) o (by first | omega | (simp only [sz_alloc, sz_set, sz_drew, sz_drewN, sz_iterAt, sz_iter] at *; omega) | (simp; done) | (simp; omega) | (simp at *; omega))
    have l3_0 : w2.heap.size < w3.heap.size := by omega
    have r3_0 := fun o => hf3 (w2.heap.size) o (by first | omega | (simp only [sz_alloc, sz_set, sz_drew, sz_drewN, sz_iterAt, sz_iter] at *; omega) | (simp; done) | (simp; omega) | (simp at *; omega))
    clear hc3 hf3
    have k0 : w3.cell? ⟨w2.heap.size, 0, none⟩ = some (.int .i64 1) := (by first | (simp [go_sem]; done) | (simp [go_sem, *]; done))
    have k1 : w3.cell? ⟨w2.heap.size, 1, none⟩ = some (.int .i64 n) := (by first | (simp [go_sem]; done) | (simp [go_sem, *]; done))
    have k2 : w3.cell? ⟨w2.heap.size, 2, none⟩ = some (.int .i64 0) := (by first | (simp [go_sem]; done) | (simp [go_sem, *]; done))
    have k3 : w3.cell? ⟨w2.heap.size, 3, none⟩ = some (.string ⟨#[]⟩) := (by first | (simp [go_sem]; done) | (simp [go_sem, *]; done))
    have k4 : w3.cell? ⟨w2.heap.size, 4, none⟩ = some (.int .i64 0) := (by first | (simp [go_sem]; done) | (simp [go_sem, *]; done))
    clear q3_0 r3_0 qW2_0 rW2_0
    by_cases h0 : n = 0
    · subst h0
      go_wp2_with fail
      go_ret
      exact ⟨ret_bool rfl, (by repeat' (first | (with_reducible exact Below.refl _ _) | (with_reducible assumption) | (with_reducible refine Below.drew ?_) | (with_reducible refine below_drewN ?_ _) | (with_reducible refine below_iterAt ?_ ?_ _ _) | (with_reducible refine below_iter ?_ ?_ _ _) | (with_reducible refine Below.alloc ?_ ?_ _) | (with_reducible refine Below.setCell ?_ ?_ _) | (with_reducible refine Below.trans ?_ (Below.mono (by assumption) ?_)) | (simp only [sz_alloc, sz_set, sz_drew, sz_drewN, sz_iterAt, sz_iter] at *; omega) | omega | (simp; done) | (simp; omega) | (apply Below.size; assumption) | (simp only [sz_drew, sz_drewN]; apply Below.size; assumption) | (refine Nat.le_trans ?_ (Below.size (by assumption)))))⟩
    by_cases h10 : n = 10
    · subst h10
      go_wp2_with fail
      go_ret
      exact ⟨ret_bool rfl, (by repeat' (first | (with_reducible exact Below.refl _ _) | (with_reducible assumption) | (with_reducible refine Below.drew ?_) | (with_reducible refine below_drewN ?_ _) | (with_reducible refine below_iterAt ?_ ?_ _ _) | (with_reducible refine below_iter ?_ ?_ _ _) | (with_reducible refine Below.alloc ?_ ?_ _) | (with_reducible refine Below.setCell ?_ ?_ _) | (with_reducible refine Below.trans ?_ (Below.mono (by assumption) ?_)) | (simp only [sz_alloc, sz_set, sz_drew, sz_drewN, sz_iterAt, sz_iter] at *; omega) | omega | (simp; done) | (simp; omega) | (apply Below.size; assumption) | (simp only [sz_drew, sz_drewN]; apply Below.size; assumption) | (refine Nat.le_trans ?_ (Below.size (by assumption)))))⟩
    · have hr : ((n : Int) % 10 == 0) = false := by
        rw [beq_eq_false_iff_ne]
        omega
      clear h0 h10
      go_wp2_with fail
      go_ret
      exact ⟨ret_bool rfl, (by repeat' (first | (with_reducible exact Below.refl _ _) | (with_reducible assumption) | (with_reducible refine Below.drew ?_) | (with_reducible refine below_drewN ?_ _) | (with_reducible refine below_iterAt ?_ ?_ _ _) | (with_reducible refine below_iter ?_ ?_ _ _) | (with_reducible refine Below.alloc ?_ ?_ _) | (with_reducible refine Below.setCell ?_ ?_ _) | (with_reducible refine Below.trans ?_ (Below.mono (by assumption) ?_)) | (simp only [sz_alloc, sz_set, sz_drew, sz_drewN, sz_iterAt, sz_iter] at *; omega) | omega | (simp; done) | (simp; omega) | (apply Below.size; assumption) | (simp only [sz_drew, sz_drewN]; apply Below.size; assumption) | (refine Nat.le_trans ?_ (Below.size (by assumption)))))⟩
end Go.Proofs.YtfhmjkdpohepaaaDoor
