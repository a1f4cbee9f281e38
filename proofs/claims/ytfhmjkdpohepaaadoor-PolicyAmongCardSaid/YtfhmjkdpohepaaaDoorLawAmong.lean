/- soffitlaw17.PolicyAmong, walked. -/
import Derived.Test.YtfhmjkdpohepaaaDoorLawAmong0
set_option linter.unusedSimpArgs false
set_option linter.unusedVariables false
namespace Go.Proofs.YtfhmjkdpohepaaaDoor
open Go.RowKit

set_option maxRecDepth 100000 in
set_option maxHeartbeats 12800000 in
theorem among_yes (k : Int) (hk0 : 0 ≤ k) (hk1 : k ≤ 255) (os od : List Vl) (m : Int) (A B : Option Addr) (ca cb : Nat) (w : World) (hA : RdL w 5 A (os.map Vl.cells5)) (hB : RdL w 5 B (od.map Vl.cells5)) (hos : ∀ v ∈ os, v.wf) (hod : ∀ v ∈ od, v.wf) (n1 : os.length ≤ 9223372036854775807) (n2 : od.length ≤ 9223372036854775807) (hE : Env w) (hs : sndAll os od bF = true) :
    Calls Tryd.prog 4 #[.int .u8 k, .slice A os.length ca, .slice B od.length cb, .int .u16 m] w fun e w' => e = .returned (.bool true) ∧ Below w.heap.size w w' := by
  obtain ⟨s1, s2, s3⟩ := sndAll_yes hs
  have HS := Lib.hid hs
  clear hs
  have six : k.tmod 6 = 0 ∨ k.tmod 6 = 1 ∨ k.tmod 6 = 2 ∨ k.tmod 6 = 3 ∨ k.tmod 6 = 4 ∨ k.tmod 6 = 5 := by rw [Int.tmod_eq_emod_of_nonneg hk0]; omega
  rcases six with hc | hc | hc | hc | hc | hc
  all_goals
    go_enter Tryd.func4, Tryd.ntmps4
    go_wp2_with fail
    generalize hPP : wrap64 _ = p
    have hp : sixP p := by rw [← hPP]; unfold sixP; decide +kernel
    clear hPP hc
    have HP := Lib.hid hp
    clear hp
    refine (pall_any os.length m w n1).mono ?_
    rintro e w1 ⟨fs, F, cf, rfl, hF, hrise, h16, hb1⟩
    have hA1 : RdL w1 5 A (os.map Vl.cells5) := hA.below hb1
    have hB1 : RdL w1 5 B (od.map Vl.cells5) := hB.below hb1
    have hE1 : Env w1 := hE.below hb1
    have hz1 := hb1.size
    by_cases hfe : fs.length = 0
    · have e0 : ((fs.length : Int) == 0) = true := by rw [hfe]; rfl
      have HFE := Lib.hid hfe
      clear hfe
      have hq : ∀ W : World, (binOp .eql 26 (.agg #[.int .i64 3, .int .i64 0, .int .i64 0, .string ⟨#[]⟩, .int .i64 0]) (.agg #[.int .i64 3, .int .i64 0, .int .i64 0, .string ⟨#[]⟩, .int .i64 0])).run Tryd.prog W = .ok (.bool true) W := fun W => (eqV_run bF bF W).trans (by rw [eqB_self])
      go_wp2_with fail
      refine (outDef os od bF fs A B F ca cb cf _ (hA1.below (by repeat' (first | (with_reducible exact Below.refl _ _) | (with_reducible assumption) | (with_reducible refine Below.drew ?_) | (with_reducible refine below_drewN ?_ _) | (with_reducible refine below_iterAt ?_ ?_ _ _) | (with_reducible refine below_iter ?_ ?_ _ _) | (with_reducible refine Below.alloc ?_ ?_ _) | (with_reducible refine Below.setCell ?_ ?_ _) | (with_reducible refine Below.trans ?_ (Below.mono (by assumption) ?_)) | (simp only [sz_alloc, sz_set, sz_drew, sz_drewN, sz_iterAt, sz_iter] at *; omega) | omega | (simp; done) | (simp; omega) | (apply Below.size; assumption) | (simp only [sz_drew, sz_drewN]; apply Below.size; assumption) | (refine Nat.le_trans ?_ (Below.size (by assumption)))))) (hB1.below (by repeat' (first | (with_reducible exact Below.refl _ _) | (with_reducible assumption) | (with_reducible refine Below.drew ?_) | (with_reducible refine below_drewN ?_ _) | (with_reducible refine below_iterAt ?_ ?_ _ _) | (with_reducible refine below_iter ?_ ?_ _ _) | (with_reducible refine Below.alloc ?_ ?_ _) | (with_reducible refine Below.setCell ?_ ?_ _) | (with_reducible refine Below.trans ?_ (Below.mono (by assumption) ?_)) | (simp only [sz_alloc, sz_set, sz_drew, sz_drewN, sz_iterAt, sz_iter] at *; omega) | omega | (simp; done) | (simp; omega) | (apply Below.size; assumption) | (simp only [sz_drew, sz_drewN]; apply Below.size; assumption) | (refine Nat.le_trans ?_ (Below.size (by assumption)))))) (hF.below (by repeat' (first | (with_reducible exact Below.refl _ _) | (with_reducible assumption) | (with_reducible refine Below.drew ?_) | (with_reducible refine below_drewN ?_ _) | (with_reducible refine below_iterAt ?_ ?_ _ _) | (with_reducible refine below_iter ?_ ?_ _ _) | (with_reducible refine Below.alloc ?_ ?_ _) | (with_reducible refine Below.setCell ?_ ?_ _) | (with_reducible refine Below.trans ?_ (Below.mono (by assumption) ?_)) | (simp only [sz_alloc, sz_set, sz_drew, sz_drewN, sz_iterAt, sz_iter] at *; omega) | omega | (simp; done) | (simp; omega) | (apply Below.size; assumption) | (simp only [sz_drew, sz_drewN]; apply Below.size; assumption) | (refine Nat.le_trans ?_ (Below.size (by assumption)))))) hos hod bF_wf hrise h16 n1 n2 (hE1.below (by repeat' (first | (with_reducible exact Below.refl _ _) | (with_reducible assumption) | (with_reducible refine Below.drew ?_) | (with_reducible refine below_drewN ?_ _) | (with_reducible refine below_iterAt ?_ ?_ _ _) | (with_reducible refine below_iter ?_ ?_ _ _) | (with_reducible refine Below.alloc ?_ ?_ _) | (with_reducible refine Below.setCell ?_ ?_ _) | (with_reducible refine Below.trans ?_ (Below.mono (by assumption) ?_)) | (simp only [sz_alloc, sz_set, sz_drew, sz_drewN, sz_iterAt, sz_iter] at *; omega) | omega | (simp; done) | (simp; omega) | (apply Below.size; assumption) | (simp only [sz_drew, sz_drewN]; apply Below.size; assumption) | (refine Nat.le_trans ?_ (Below.size (by assumption)))))) p (six_known HP.out).1 (six_known HP.out).2 HFE.out s1 s2 s3).mono ?_
      rintro e w2 ⟨he, hb2⟩
      obtain rfl : e = .returned (.tuple #[.agg #[.int .i64 3, .int .i64 0, .int .i64 0, .string ⟨#[]⟩, .int .i64 0], .int .i64 0]) := he
      have hz2 := hb2.size
      go_wp2_with fail
      refine (awake17_any _ (hE1.below (by repeat' (first | (with_reducible exact Below.refl _ _) | (with_reducible assumption) | (with_reducible refine Below.drew ?_) | (with_reducible refine below_drewN ?_ _) | (with_reducible refine below_iterAt ?_ ?_ _ _) | (with_reducible refine below_iter ?_ ?_ _ _) | (with_reducible refine Below.alloc ?_ ?_ _) | (with_reducible refine Below.setCell ?_ ?_ _) | (with_reducible refine Below.trans ?_ (Below.mono (by assumption) ?_)) | (simp only [sz_alloc, sz_set, sz_drew, sz_drewN, sz_iterAt, sz_iter] at *; omega) | omega | (simp; done) | (simp; omega) | (apply Below.size; assumption) | (simp only [sz_drew, sz_drewN]; apply Below.size; assumption) | (refine Nat.le_trans ?_ (Below.size (by assumption))))))).mono ?_
      rintro e w3 ⟨rfl, hb3⟩
      obtain ⟨hc3, hf3⟩ := bcell hb3
      have hz3 := hb3.size
      try simp at hz3
      have q3_0 := fun o => hc3 (w2.heap.size) o (by first | omega | (simp only [sz_alloc, sz_set, sz_drew, sz_drewN, sz_iterAt, sz_iter] at *; omega) | (simp; done) | (simp; omega) | (simp at *; omega))
      have l3_0 : w2.heap.size < w3.heap.size := by omega
      have r3_0 := fun o => hf3 (w2.heap.size) o (by first | omega | (simp only [sz_alloc, sz_set, sz_drew, sz_drewN, sz_iterAt, sz_iter] at *; omega) | (simp; done) | (simp; omega) | (simp at *; omega))
      clear hc3 hf3
      go_wp2_with fail
      refine (awake17_any _ (hE1.below (by repeat' (first | (with_reducible exact Below.refl _ _) | (with_reducible assumption) | (with_reducible refine Below.drew ?_) | (with_reducible refine below_drewN ?_ _) | (with_reducible refine below_iterAt ?_ ?_ _ _) | (with_reducible refine below_iter ?_ ?_ _ _) | (with_reducible refine Below.alloc ?_ ?_ _) | (with_reducible refine Below.setCell ?_ ?_ _) | (with_reducible refine Below.trans ?_ (Below.mono (by assumption) ?_)) | (simp only [sz_alloc, sz_set, sz_drew, sz_drewN, sz_iterAt, sz_iter] at *; omega) | omega | (simp; done) | (simp; omega) | (apply Below.size; assumption) | (simp only [sz_drew, sz_drewN]; apply Below.size; assumption) | (refine Nat.le_trans ?_ (Below.size (by assumption))))))).mono ?_
      rintro e w4 ⟨rfl, hb4⟩
      obtain ⟨hc4, hf4⟩ := bcell hb4
      have hz4 := hb4.size
      try simp at hz4
      have q4_0 := fun o => hc4 (w2.heap.size) o (by first | omega | (simp only [sz_alloc, sz_set, sz_drew, sz_drewN, sz_iterAt, sz_iter] at *; omega) | (simp; done) | (simp; omega) | (simp at *; omega))
      have l4_0 : w2.heap.size < w4.heap.size := by omega
      have r4_0 := fun o => hf4 (w2.heap.size) o (by first | omega | (simp only [sz_alloc, sz_set, sz_drew, sz_drewN, sz_iterAt, sz_iter] at *; omega) | (simp; done) | (simp; omega) | (simp at *; omega))
      clear hc4 hf4
      have ka0 : w4.cell? ⟨w2.heap.size, 0, none⟩ = some (.int .i64 3) := (by first | (simp [go_sem]; done) | (simp [go_sem, *]; done))
      have ka1 : w4.cell? ⟨w2.heap.size, 1, none⟩ = some (.int .i64 0) := (by first | (simp [go_sem]; done) | (simp [go_sem, *]; done))
      have ka2 : w4.cell? ⟨w2.heap.size, 2, none⟩ = some (.int .i64 0) := (by first | (simp [go_sem]; done) | (simp [go_sem, *]; done))
      have ka3 : w4.cell? ⟨w2.heap.size, 3, none⟩ = some (.string ⟨#[]⟩) := (by first | (simp [go_sem]; done) | (simp [go_sem, *]; done))
      have ka4 : w4.cell? ⟨w2.heap.size, 4, none⟩ = some (.int .i64 0) := (by first | (simp [go_sem]; done) | (simp [go_sem, *]; done))
      clear q3_0 r3_0 q4_0 r4_0
      go_wp2_with fail
      try go_quiet (fail)
      go_wp2_with fail
      go_ret
      exact ⟨ret_bool rfl, (by repeat' (first | (with_reducible exact Below.refl _ _) | (with_reducible assumption) | (with_reducible refine Below.drew ?_) | (with_reducible refine below_drewN ?_ _) | (with_reducible refine below_iterAt ?_ ?_ _ _) | (with_reducible refine below_iter ?_ ?_ _ _) | (with_reducible refine Below.alloc ?_ ?_ _) | (with_reducible refine Below.setCell ?_ ?_ _) | (with_reducible refine Below.trans ?_ (Below.mono (by assumption) ?_)) | (simp only [sz_alloc, sz_set, sz_drew, sz_drewN, sz_iterAt, sz_iter] at *; omega) | omega | (simp; done) | (simp; omega) | (apply Below.size; assumption) | (simp only [sz_drew, sz_drewN]; apply Below.size; assumption) | (refine Nat.le_trans ?_ (Below.size (by assumption)))))⟩
    · have e0 : ((fs.length : Int) == 0) = false := by rw [beq_eq_false_iff_ne]; omega
      obtain ⟨f, fr, hfr⟩ : ∃ f fr, fs = f :: fr := by cases fs with | nil => exact absurd rfl hfe | cons f fr => exact ⟨f, fr, rfl⟩
      have hmap : fs.map (pickV os) = pickV os f :: fr.map (pickV os) := by rw [hfr]; rfl
      have HFR := Lib.hid hfr
      have HFE := Lib.hid hfe
      clear hfe hfr
      go_wp2_with fail
      refine (outAmong_any os od bF fs A B F ca cb cf _ (hA1.below (by repeat' (first | (with_reducible exact Below.refl _ _) | (with_reducible assumption) | (with_reducible refine Below.drew ?_) | (with_reducible refine below_drewN ?_ _) | (with_reducible refine below_iterAt ?_ ?_ _ _) | (with_reducible refine below_iter ?_ ?_ _ _) | (with_reducible refine Below.alloc ?_ ?_ _) | (with_reducible refine Below.setCell ?_ ?_ _) | (with_reducible refine Below.trans ?_ (Below.mono (by assumption) ?_)) | (simp only [sz_alloc, sz_set, sz_drew, sz_drewN, sz_iterAt, sz_iter] at *; omega) | omega | (simp; done) | (simp; omega) | (apply Below.size; assumption) | (simp only [sz_drew, sz_drewN]; apply Below.size; assumption) | (refine Nat.le_trans ?_ (Below.size (by assumption)))))) (hB1.below (by repeat' (first | (with_reducible exact Below.refl _ _) | (with_reducible assumption) | (with_reducible refine Below.drew ?_) | (with_reducible refine below_drewN ?_ _) | (with_reducible refine below_iterAt ?_ ?_ _ _) | (with_reducible refine below_iter ?_ ?_ _ _) | (with_reducible refine Below.alloc ?_ ?_ _) | (with_reducible refine Below.setCell ?_ ?_ _) | (with_reducible refine Below.trans ?_ (Below.mono (by assumption) ?_)) | (simp only [sz_alloc, sz_set, sz_drew, sz_drewN, sz_iterAt, sz_iter] at *; omega) | omega | (simp; done) | (simp; omega) | (apply Below.size; assumption) | (simp only [sz_drew, sz_drewN]; apply Below.size; assumption) | (refine Nat.le_trans ?_ (Below.size (by assumption)))))) (hF.below (by repeat' (first | (with_reducible exact Below.refl _ _) | (with_reducible assumption) | (with_reducible refine Below.drew ?_) | (with_reducible refine below_drewN ?_ _) | (with_reducible refine below_iterAt ?_ ?_ _ _) | (with_reducible refine below_iter ?_ ?_ _ _) | (with_reducible refine Below.alloc ?_ ?_ _) | (with_reducible refine Below.setCell ?_ ?_ _) | (with_reducible refine Below.trans ?_ (Below.mono (by assumption) ?_)) | (simp only [sz_alloc, sz_set, sz_drew, sz_drewN, sz_iterAt, sz_iter] at *; omega) | omega | (simp; done) | (simp; omega) | (apply Below.size; assumption) | (simp only [sz_drew, sz_drewN]; apply Below.size; assumption) | (refine Nat.le_trans ?_ (Below.size (by assumption)))))) hos hod bF_wf hrise h16 n1 n2 (hE1.below (by repeat' (first | (with_reducible exact Below.refl _ _) | (with_reducible assumption) | (with_reducible refine Below.drew ?_) | (with_reducible refine below_drewN ?_ _) | (with_reducible refine below_iterAt ?_ ?_ _ _) | (with_reducible refine below_iter ?_ ?_ _ _) | (with_reducible refine Below.alloc ?_ ?_ _) | (with_reducible refine Below.setCell ?_ ?_ _) | (with_reducible refine Below.trans ?_ (Below.mono (by assumption) ?_)) | (simp only [sz_alloc, sz_set, sz_drew, sz_drewN, sz_iterAt, sz_iter] at *; omega) | omega | (simp; done) | (simp; omega) | (apply Below.size; assumption) | (simp only [sz_drew, sz_drewN]; apply Below.size; assumption) | (refine Nat.le_trans ?_ (Below.size (by assumption)))))) p HP.out HS.out f fr HFR.out).mono ?_
      rintro e w2 ⟨R, rfl, ham, hb2⟩
      have hz2 := hb2.size
      rw [← hmap] at ham
      obtain ⟨ps, hps⟩ : ∃ ps, fs.map (pickV os) = ps := ⟨_, rfl⟩
      rw [hps] at ham
      have hpl : ps.length = fs.length := by rw [← hps]; exact List.length_map _
      have hpg : ∀ j (h : j < fs.length) (h2 : j < ps.length), ps[j]'h2 = pickV os (fs[j]'h) := by intro j h h2; subst hps; simp
      have HAM := Lib.hid ham
      have HPL := Lib.hid hpl
      have HPG := Lib.hid hpg
      clear ham hpl hpg hps hmap
      go_wp2_with fail
      refine (awake17_any _ (hE1.below (by repeat' (first | (with_reducible exact Below.refl _ _) | (with_reducible assumption) | (with_reducible refine Below.drew ?_) | (with_reducible refine below_drewN ?_ _) | (with_reducible refine below_iterAt ?_ ?_ _ _) | (with_reducible refine below_iter ?_ ?_ _ _) | (with_reducible refine Below.alloc ?_ ?_ _) | (with_reducible refine Below.setCell ?_ ?_ _) | (with_reducible refine Below.trans ?_ (Below.mono (by assumption) ?_)) | (simp only [sz_alloc, sz_set, sz_drew, sz_drewN, sz_iterAt, sz_iter] at *; omega) | omega | (simp; done) | (simp; omega) | (apply Below.size; assumption) | (simp only [sz_drew, sz_drewN]; apply Below.size; assumption) | (refine Nat.le_trans ?_ (Below.size (by assumption))))))).mono ?_
      rintro e w3 ⟨rfl, hb3⟩
      obtain ⟨hc3, hf3⟩ := bcell hb3
      have hz3 := hb3.size
      try simp at hz3
      have q3_0 := fun o => hc3 (w2.heap.size) o (by first | omega | (simp only [sz_alloc, sz_set, sz_drew, sz_drewN, sz_iterAt, sz_iter] at *; omega) | (simp; done) | (simp; omega) | (simp at *; omega))
      have l3_0 : w2.heap.size < w3.heap.size := by omega
      have r3_0 := fun o => hf3 (w2.heap.size) o (by first | omega | (simp only [sz_alloc, sz_set, sz_drew, sz_drewN, sz_iterAt, sz_iter] at *; omega) | (simp; done) | (simp; omega) | (simp at *; omega))
      clear hc3 hf3
      have ka0 : w3.cell? ⟨w2.heap.size, 0, none⟩ = some (.int .i64 R.k) := (by first | (simp [go_sem]; done) | (simp [go_sem, *]; done))
      have ka1 : w3.cell? ⟨w2.heap.size, 1, none⟩ = some (.int .i64 R.n) := (by first | (simp [go_sem]; done) | (simp [go_sem, *]; done))
      have ka2 : w3.cell? ⟨w2.heap.size, 2, none⟩ = some (.int .i64 R.s) := (by first | (simp [go_sem]; done) | (simp [go_sem, *]; done))
      have ka3 : w3.cell? ⟨w2.heap.size, 3, none⟩ = some (.string R.t) := (by first | (simp [go_sem]; done) | (simp [go_sem, *]; done))
      have ka4 : w3.cell? ⟨w2.heap.size, 4, none⟩ = some (.int .i64 R.i) := (by first | (simp [go_sem]; done) | (simp [go_sem, *]; done))
      have hF3 : RdL w3 1 F (fs.map intC) := hF.below (by repeat' (first | (with_reducible exact Below.refl _ _) | (with_reducible assumption) | (with_reducible refine Below.drew ?_) | (with_reducible refine below_drewN ?_ _) | (with_reducible refine below_iterAt ?_ ?_ _ _) | (with_reducible refine below_iter ?_ ?_ _ _) | (with_reducible refine Below.alloc ?_ ?_ _) | (with_reducible refine Below.setCell ?_ ?_ _) | (with_reducible refine Below.trans ?_ (Below.mono (by assumption) ?_)) | (simp only [sz_alloc, sz_set, sz_drew, sz_drewN, sz_iterAt, sz_iter] at *; omega) | omega | (simp; done) | (simp; omega) | (apply Below.size; assumption) | (simp only [sz_drew, sz_drewN]; apply Below.size; assumption) | (refine Nat.le_trans ?_ (Below.size (by assumption)))))
      have hA3 : RdL w3 5 A (os.map Vl.cells5) := hA1.below (by repeat' (first | (with_reducible exact Below.refl _ _) | (with_reducible assumption) | (with_reducible refine Below.drew ?_) | (with_reducible refine below_drewN ?_ _) | (with_reducible refine below_iterAt ?_ ?_ _ _) | (with_reducible refine below_iter ?_ ?_ _ _) | (with_reducible refine Below.alloc ?_ ?_ _) | (with_reducible refine Below.setCell ?_ ?_ _) | (with_reducible refine Below.trans ?_ (Below.mono (by assumption) ?_)) | (simp only [sz_alloc, sz_set, sz_drew, sz_drewN, sz_iterAt, sz_iter] at *; omega) | omega | (simp; done) | (simp; omega) | (apply Below.size; assumption) | (simp only [sz_drew, sz_drewN]; apply Below.size; assumption) | (refine Nat.le_trans ?_ (Below.size (by assumption)))))
      have hbw3 : Below w.heap.size w w3 := (by repeat' (first | (with_reducible exact Below.refl _ _) | (with_reducible assumption) | (with_reducible refine Below.drew ?_) | (with_reducible refine below_drewN ?_ _) | (with_reducible refine below_iterAt ?_ ?_ _ _) | (with_reducible refine below_iter ?_ ?_ _ _) | (with_reducible refine Below.alloc ?_ ?_ _) | (with_reducible refine Below.setCell ?_ ?_ _) | (with_reducible refine Below.trans ?_ (Below.mono (by assumption) ?_)) | (simp only [sz_alloc, sz_set, sz_drew, sz_drewN, sz_iterAt, sz_iter] at *; omega) | omega | (simp; done) | (simp; omega) | (apply Below.size; assumption) | (simp only [sz_drew, sz_drewN]; apply Below.size; assumption) | (refine Nat.le_trans ?_ (Below.size (by assumption)))))
      clear hA hB hB1 hF hE1 hA1 hE hb1 hb2 hb3 q3_0 r3_0
      have hl2 : w2.heap.size < w3.heap.size := cell_lt ka0
      obtain ⟨z, hz⟩ : ∃ z, eqB R Vl.zero = z := ⟨_, rfl⟩
      have hq0 : ∀ W : World, (binOp .eql 26 (.agg #[.int .i64 R.k, .int .i64 R.n, .int .i64 R.s, .string R.t, .int .i64 R.i]) (.agg #[.int .i64 0, .int .i64 0, .int .i64 0, .string ⟨#[]⟩, .int .i64 0])).run Tryd.prog W = .ok (.bool z) W := fun W => (eqV_run R Vl.zero W).trans (by rw [hz])
      have hst : Hid (z = true ∨ (z = false ∧ R ≠ Vl.zero ∧ ∀ v ∈ ps.take 0, v ≠ R)) := by
        cases z
        · exact Or.inr ⟨rfl, fun h => (by rw [h, eqB_self] at hz; cases hz), fun v hv => (by simp at hv)⟩
        · exact Or.inl rfl
      clear hz
      go_wp2_with fail
      clear e0
      go_loopg [13, 14] fs.length (fun kk bv iv wr => ∃ (j : Nat) (b : Bool), j ≤ fs.length ∧ fs.length - j ≤ kk ∧ bv = .bool b ∧ iv = .int .i64 j ∧ Hid (b = true ∨ (b = false ∧ R ≠ Vl.zero ∧ ∀ v ∈ ps.take j, v ≠ R)) ∧ Below w3.heap.size w3 wr)
      case atStart => exact ⟨0, z, by omega, by omega, rfl, rfl, hst, Below.refl _ _⟩
      case round =>
        clear hst hq0
        obtain ⟨j, b, hj, hjk, rfl, rfl, hinv, hbel⟩ := hrel
        have hsz := hbel.size
        have a0 := cell_below hbel ka0
        have a1 := cell_below hbel ka1
        have a2 := cell_below hbel ka2
        have a3 := cell_below hbel ka3
        have a4 := cell_below hbel ka4
        by_cases hjl : j < fs.length
        · have h2 : (j : Int) < (fs.length : Int) := by omega
          have hjp : j < ps.length := by rw [HPL.out]; exact hjl
          have hpj := HPG.out j hjl hjp
          have htk : ps.take (j + 1) = ps.take j ++ [ps[j]'hjp] := List.take_succ_eq_append_getElem hjp
          rw [hpj] at htk
          obtain ⟨bF, oF, hFe, hxF⟩ := (hF3.below hbel).at_ hjl
          subst hFe
          have g0 := hxF.get 0 rfl
          rw [Nat.mul_one, Nat.add_zero] at g0
          have hx0 := hrise.lo _ (List.getElem_mem hjl)
          have hx1 := hrise.hi _ (List.getElem_mem hjl)
          generalize fs[j]'hjl = n at *
          obtain ⟨n', rfl⟩ : ∃ n' : Nat, n = (n' : Int) := ⟨n.toNat, by omega⟩
          have hnl : n' < os.length := by omega
          have hpk : pickV os (n' : Int) = os[n']'hnl := by unfold pickV; rw [Int.toNat_natCast, List.getElem?_eq_getElem hnl]; rfl
          rw [hpk] at htk
          obtain ⟨b1, off, hAe, hxA⟩ := (hA3.below hbel).at_ hnl
          subst hAe
          generalize os[n']'hnl = u at *
          have u0 := hxA.get 0 rfl
          have u1 := hxA.get 1 rfl
          have u2 := hxA.get 2 rfl
          have u3 := hxA.get 3 rfl
          have u4 := hxA.get 4 rfl
          rw [Nat.add_zero] at u0
          have i1 : (0 : Int) ≤ (j : Int) := by omega
          have i3 : (0 : Int) ≤ (n' : Int) := by omega
          have i4 : (n' : Int) < (os.length : Int) := by omega
          have HTK := Lib.hid htk
          clear hxF hxA hx0 hx1 hpk htk hpj hjp
          cases b
          · have hq := fun W : World => eqV_run u R W
            have hinv2 : Hid (R ≠ Vl.zero ∧ ∀ v ∈ ps.take j, v ≠ R) := by rcases hinv.out with h | ⟨_, h⟩; cases h; exact h
            clear hinv
            cases hm : eqB u R
            · rw [hm] at hq
              have hn : Hid (R ≠ Vl.zero ∧ ∀ v ∈ ps.take (j + 1), v ≠ R) := by
                refine ⟨hinv2.out.1, fun v hv => ?_⟩
                rw [HTK.out] at hv
                rcases List.mem_append.1 hv with h | h
                · exact hinv2.out.2 v h
                · rw [List.mem_singleton.1 h]; intro e; rw [e, eqB_self] at hm; cases hm
              clear hm
              go_wp2_with fail
              try go_quiet (fail)
              go_wp2_with fail
              go_roundg (fs.length - (j + 1))
              case measure => omega
              case rel => exact ⟨j + 1, false, by omega, by omega, rfl, by go_num, Or.inr ⟨rfl, hn.out⟩, (by repeat' (first | (with_reducible exact Below.refl _ _) | (with_reducible assumption) | (with_reducible refine Below.drew ?_) | (with_reducible refine below_drewN ?_ _) | (with_reducible refine below_iterAt ?_ ?_ _ _) | (with_reducible refine below_iter ?_ ?_ _ _) | (with_reducible refine Below.alloc ?_ ?_ _) | (with_reducible refine Below.setCell ?_ ?_ _) | (with_reducible refine Below.trans ?_ (Below.mono (by assumption) ?_)) | (simp only [sz_alloc, sz_set, sz_drew, sz_drewN, sz_iterAt, sz_iter] at *; omega) | omega | (simp; done) | (simp; omega) | (apply Below.size; assumption) | (simp only [sz_drew, sz_drewN]; apply Below.size; assumption) | (refine Nat.le_trans ?_ (Below.size (by assumption)))))⟩
            · rw [hm] at hq
              clear hm
              go_wp2_with fail
              try go_quiet (fail)
              go_wp2_with fail
              go_roundg (fs.length - (j + 1))
              case measure => omega
              case rel => exact ⟨j + 1, true, by omega, by omega, rfl, by go_num, Or.inl rfl, (by repeat' (first | (with_reducible exact Below.refl _ _) | (with_reducible assumption) | (with_reducible refine Below.drew ?_) | (with_reducible refine below_drewN ?_ _) | (with_reducible refine below_iterAt ?_ ?_ _ _) | (with_reducible refine below_iter ?_ ?_ _ _) | (with_reducible refine Below.alloc ?_ ?_ _) | (with_reducible refine Below.setCell ?_ ?_ _) | (with_reducible refine Below.trans ?_ (Below.mono (by assumption) ?_)) | (simp only [sz_alloc, sz_set, sz_drew, sz_drewN, sz_iterAt, sz_iter] at *; omega) | omega | (simp; done) | (simp; omega) | (apply Below.size; assumption) | (simp only [sz_drew, sz_drewN]; apply Below.size; assumption) | (refine Nat.le_trans ?_ (Below.size (by assumption)))))⟩
          · clear hinv
            go_wp2_with fail
            try go_quiet (fail)
            go_wp2_with fail
            go_roundg (fs.length - (j + 1))
            case measure => omega
            case rel => exact ⟨j + 1, true, by omega, by omega, rfl, by go_num, Or.inl rfl, (by repeat' (first | (with_reducible exact Below.refl _ _) | (with_reducible assumption) | (with_reducible refine Below.drew ?_) | (with_reducible refine below_drewN ?_ _) | (with_reducible refine below_iterAt ?_ ?_ _ _) | (with_reducible refine below_iter ?_ ?_ _ _) | (with_reducible refine Below.alloc ?_ ?_ _) | (with_reducible refine Below.setCell ?_ ?_ _) | (with_reducible refine Below.trans ?_ (Below.mono (by assumption) ?_)) | (simp only [sz_alloc, sz_set, sz_drew, sz_drewN, sz_iterAt, sz_iter] at *; omega) | omega | (simp; done) | (simp; omega) | (apply Below.size; assumption) | (simp only [sz_drew, sz_drewN]; apply Below.size; assumption) | (refine Nat.le_trans ?_ (Below.size (by assumption)))))⟩
        · have hje : j = fs.length := by omega
          have hb : b = true := by
            rcases hinv.out with h | ⟨_, h1, h2⟩
            · exact h
            · exfalso
              rcases HAM.out.1 with h | h
              · exact h1 h
              · exact h2 R (by rw [List.take_of_length_le (by rw [HPL.out]; omega)]; exact h) rfl
          subst hb
          clear hinv
          have h3 : ¬ ((j : Int) < (fs.length : Int)) := by omega
          by_cases h1 : 1 < fs.length
          · have h4 : (1 : Int) < (fs.length : Int) := by omega
            clear h1
            go_wp2_with fail
            try go_quiet (fail)
            go_wp2_with fail
            go_ret
            exact ⟨ret_bool rfl, (by repeat' (first | (with_reducible exact Below.refl _ _) | (with_reducible assumption) | (with_reducible refine Below.drew ?_) | (with_reducible refine below_drewN ?_ _) | (with_reducible refine below_iterAt ?_ ?_ _ _) | (with_reducible refine below_iter ?_ ?_ _ _) | (with_reducible refine Below.alloc ?_ ?_ _) | (with_reducible refine Below.setCell ?_ ?_ _) | (with_reducible refine Below.trans ?_ (Below.mono (by assumption) ?_)) | (simp only [sz_alloc, sz_set, sz_drew, sz_drewN, sz_iterAt, sz_iter] at *; omega) | omega | (simp; done) | (simp; omega) | (apply Below.size; assumption) | (simp only [sz_drew, sz_drewN]; apply Below.size; assumption) | (refine Nat.le_trans ?_ (Below.size (by assumption)))))⟩
          · have h5 : fs.length = 1 := by have := HFE.out; omega
            have h4 : decide ((1 : Int) < (fs.length : Int)) = false := decide_eq_false (by omega)
            have hRo : R = pickV os f := HAM.out.2 (by rw [HPL.out]; exact h5)
            have hf0 : fs[0]'(by omega) = f := by have := HFR.out; subst this; rfl
            obtain ⟨bF, oF, hFe, hxF⟩ := (hF3.below hbel).at_ (show 0 < fs.length by omega)
            subst hFe
            have g0 := hxF.get 0 rfl
            have hx0 := hrise.lo _ (List.getElem_mem (show 0 < fs.length by omega))
            have hx1 := hrise.hi _ (List.getElem_mem (show 0 < fs.length by omega))
            rw [hf0] at g0 hx0 hx1
            obtain ⟨n', rfl⟩ : ∃ n' : Nat, f = (n' : Int) := ⟨f.toNat, by omega⟩
            have hnl : n' < os.length := by omega
            have hpk : pickV os (n' : Int) = os[n']'hnl := by unfold pickV; rw [Int.toNat_natCast, List.getElem?_eq_getElem hnl]; rfl
            obtain ⟨b1, off, hAe, hxA⟩ := (hA3.below hbel).at_ hnl
            subst hAe
            rw [← hpk, ← hRo] at hxA
            have u0 := hxA.get 0 rfl
            have u1 := hxA.get 1 rfl
            have u2 := hxA.get 2 rfl
            have u3 := hxA.get 3 rfl
            have u4 := hxA.get 4 rfl
            rw [Nat.add_zero] at u0
            have g1 : wr.cell? ⟨bF, oF, none⟩ = some (.int .i64 (n' : Int)) := by have := g0; simpa using this
            have i3 : (0 : Int) ≤ (n' : Int) := by omega
            have i4 : (n' : Int) < (os.length : Int) := by omega
            have i5 : (0 : Int) < (fs.length : Int) := by omega
            have hq : ∀ W : World, _ := fun W => (eqV_run R R W).trans (by rw [eqB_self])
            clear hxF hxA hx0 hx1 hpk hRo hf0 h1 h5 hje g0
            go_wp2_with fail
            try go_quiet (fail)
            go_wp2_with fail
            go_ret
            exact ⟨ret_bool rfl, (by repeat' (first | (with_reducible exact Below.refl _ _) | (with_reducible assumption) | (with_reducible refine Below.drew ?_) | (with_reducible refine below_drewN ?_ _) | (with_reducible refine below_iterAt ?_ ?_ _ _) | (with_reducible refine below_iter ?_ ?_ _ _) | (with_reducible refine Below.alloc ?_ ?_ _) | (with_reducible refine Below.setCell ?_ ?_ _) | (with_reducible refine Below.trans ?_ (Below.mono (by assumption) ?_)) | (simp only [sz_alloc, sz_set, sz_drew, sz_drewN, sz_iterAt, sz_iter] at *; omega) | omega | (simp; done) | (simp; omega) | (apply Below.size; assumption) | (simp only [sz_drew, sz_drewN]; apply Below.size; assumption) | (refine Nat.le_trans ?_ (Below.size (by assumption)))))⟩
end Go.Proofs.YtfhmjkdpohepaaaDoor
