/- soffit/value.Fits, soffitref04.Fits; soffitlaw04.ValueSounds: walked. -/
import Derived.Test.YthicilfhnakhmaaGreatDoorAw04
set_option linter.unusedSimpArgs false
set_option linter.unusedVariables false
namespace Go.Proofs.YthicilfhnakhmaaGreatDoor
open Go.RowKit Go.Sort Go.Lib

def fitB (v : Vl) (k s : Int) : Bool := sndB v && (v.k == 0 || (v.k == k && (k != 1 || decide (v.s ≤ s))))

set_option maxRecDepth 100000 in
set_option maxHeartbeats 3200000 in
theorem vFits_any (v : Vl) (k s : Int) (w : World) (hv : v.wf) (hE : Env w) :
    Calls Tryz.prog 15 #[.agg #[.int .i64 v.k, .int .i64 v.n, .int .i64 v.s, .string v.t, .int .i64 v.i], .int .i64 k, .int .i64 s] w fun e w' => e = .returned (.bool (fitB v k s)) ∧ Below w.heap.size w w' := by
  obtain ⟨B, hB⟩ : ∃ B, fitB v k s = B := ⟨_, rfl⟩
  rw [hB]
  unfold fitB at hB
  cases hs : sndB v
  · rw [hs] at hB
    have HB := Lib.hid hB
    clear hB
    go_enter Tryz.func15, Tryz.ntmps15
    go_wp2_with fail
    refine (vSound_any v _ hv (hE.below (by repeat' (first | (with_reducible exact Below.refl _ _) | (with_reducible assumption) | (with_reducible refine Below.drew ?_) | (with_reducible refine below_drewN ?_ _) | (with_reducible refine below_iterAt ?_ ?_ _ _) | (with_reducible refine below_iter ?_ ?_ _ _) | (with_reducible refine Below.alloc ?_ ?_ _) | (with_reducible refine Below.setCell ?_ ?_ _) | (with_reducible refine Below.trans ?_ (Below.mono (by assumption) ?_)) | (simp only [sz_alloc, sz_set, sz_drew, sz_drewN, sz_iterAt, sz_iter] at *; omega) | omega | (simp; done) | (simp; omega) | (apply Below.size; assumption) | (simp only [sz_drew, sz_drewN]; apply Below.size; assumption) | (refine Nat.le_trans ?_ (Below.size (by assumption))))))).mono ?_
    rintro e w1 ⟨rfl, hb1⟩
    rw [hs]
    clear hs
    go_wp2_with fail
    go_ret
    exact ⟨ret_bool (by rw [← HB.out]; rfl), (by repeat' (first | (with_reducible exact Below.refl _ _) | (with_reducible assumption) | (with_reducible refine Below.drew ?_) | (with_reducible refine below_drewN ?_ _) | (with_reducible refine below_iterAt ?_ ?_ _ _) | (with_reducible refine below_iter ?_ ?_ _ _) | (with_reducible refine Below.alloc ?_ ?_ _) | (with_reducible refine Below.setCell ?_ ?_ _) | (with_reducible refine Below.trans ?_ (Below.mono (by assumption) ?_)) | (simp only [sz_alloc, sz_set, sz_drew, sz_drewN, sz_iterAt, sz_iter] at *; omega) | omega | (simp; done) | (simp; omega) | (apply Below.size; assumption) | (simp only [sz_drew, sz_drewN]; apply Below.size; assumption) | (refine Nat.le_trans ?_ (Below.size (by assumption)))))⟩
  · rw [hs] at hB
    cases e0 : (v.k == 0)
    · cases e1 : (v.k == k)
      · rw [e0, e1] at hB
        have HB := Lib.hid hB
        clear hB
        go_enter Tryz.func15, Tryz.ntmps15
        go_wp2_with fail
        refine (vSound_any v _ hv (hE.below (by repeat' (first | (with_reducible exact Below.refl _ _) | (with_reducible assumption) | (with_reducible refine Below.drew ?_) | (with_reducible refine below_drewN ?_ _) | (with_reducible refine below_iterAt ?_ ?_ _ _) | (with_reducible refine below_iter ?_ ?_ _ _) | (with_reducible refine Below.alloc ?_ ?_ _) | (with_reducible refine Below.setCell ?_ ?_ _) | (with_reducible refine Below.trans ?_ (Below.mono (by assumption) ?_)) | (simp only [sz_alloc, sz_set, sz_drew, sz_drewN, sz_iterAt, sz_iter] at *; omega) | omega | (simp; done) | (simp; omega) | (apply Below.size; assumption) | (simp only [sz_drew, sz_drewN]; apply Below.size; assumption) | (refine Nat.le_trans ?_ (Below.size (by assumption))))))).mono ?_
        rintro e w1 ⟨rfl, hb1⟩
        rw [hs]
        clear hs
        obtain ⟨hc1, hf1⟩ := bcell hb1
        have hz1 := hb1.size
        try simp at hz1
        have q1_0 := fun o => hc1 (w.heap.size) o (by first | omega | (simp only [sz_alloc, sz_set, sz_drew, sz_drewN, sz_iterAt, sz_iter] at *; omega) | (simp; done) | (simp; omega) | (simp at *; omega))
        have l1_0 : w.heap.size < w1.heap.size := by omega
        have r1_0 := fun o => hf1 (w.heap.size) o (by first | omega | (simp only [sz_alloc, sz_set, sz_drew, sz_drewN, sz_iterAt, sz_iter] at *; omega) | (simp; done) | (simp; omega) | (simp at *; omega))
        clear hc1 hf1
        go_wp2_with fail
        go_ret
        exact ⟨ret_bool (by rw [← HB.out]; simp), (by repeat' (first | (with_reducible exact Below.refl _ _) | (with_reducible assumption) | (with_reducible refine Below.drew ?_) | (with_reducible refine below_drewN ?_ _) | (with_reducible refine below_iterAt ?_ ?_ _ _) | (with_reducible refine below_iter ?_ ?_ _ _) | (with_reducible refine Below.alloc ?_ ?_ _) | (with_reducible refine Below.setCell ?_ ?_ _) | (with_reducible refine Below.trans ?_ (Below.mono (by assumption) ?_)) | (simp only [sz_alloc, sz_set, sz_drew, sz_drewN, sz_iterAt, sz_iter] at *; omega) | omega | (simp; done) | (simp; omega) | (apply Below.size; assumption) | (simp only [sz_drew, sz_drewN]; apply Below.size; assumption) | (refine Nat.le_trans ?_ (Below.size (by assumption)))))⟩
      · cases e2 : (k != 1)
        · rw [e0, e1, e2] at hB
          have HB := Lib.hid hB
          clear hB
          go_enter Tryz.func15, Tryz.ntmps15
          go_wp2_with fail
          refine (vSound_any v _ hv (hE.below (by repeat' (first | (with_reducible exact Below.refl _ _) | (with_reducible assumption) | (with_reducible refine Below.drew ?_) | (with_reducible refine below_drewN ?_ _) | (with_reducible refine below_iterAt ?_ ?_ _ _) | (with_reducible refine below_iter ?_ ?_ _ _) | (with_reducible refine Below.alloc ?_ ?_ _) | (with_reducible refine Below.setCell ?_ ?_ _) | (with_reducible refine Below.trans ?_ (Below.mono (by assumption) ?_)) | (simp only [sz_alloc, sz_set, sz_drew, sz_drewN, sz_iterAt, sz_iter] at *; omega) | omega | (simp; done) | (simp; omega) | (apply Below.size; assumption) | (simp only [sz_drew, sz_drewN]; apply Below.size; assumption) | (refine Nat.le_trans ?_ (Below.size (by assumption))))))).mono ?_
          rintro e w1 ⟨rfl, hb1⟩
          rw [hs]
          clear hs
          obtain ⟨hc1, hf1⟩ := bcell hb1
          have hz1 := hb1.size
          try simp at hz1
          have q1_0 := fun o => hc1 (w.heap.size) o (by first | omega | (simp only [sz_alloc, sz_set, sz_drew, sz_drewN, sz_iterAt, sz_iter] at *; omega) | (simp; done) | (simp; omega) | (simp at *; omega))
          have l1_0 : w.heap.size < w1.heap.size := by omega
          have r1_0 := fun o => hf1 (w.heap.size) o (by first | omega | (simp only [sz_alloc, sz_set, sz_drew, sz_drewN, sz_iterAt, sz_iter] at *; omega) | (simp; done) | (simp; omega) | (simp at *; omega))
          clear hc1 hf1
          go_wp2_with fail
          go_ret
          exact ⟨ret_bool (by rw [← HB.out]; simp), (by repeat' (first | (with_reducible exact Below.refl _ _) | (with_reducible assumption) | (with_reducible refine Below.drew ?_) | (with_reducible refine below_drewN ?_ _) | (with_reducible refine below_iterAt ?_ ?_ _ _) | (with_reducible refine below_iter ?_ ?_ _ _) | (with_reducible refine Below.alloc ?_ ?_ _) | (with_reducible refine Below.setCell ?_ ?_ _) | (with_reducible refine Below.trans ?_ (Below.mono (by assumption) ?_)) | (simp only [sz_alloc, sz_set, sz_drew, sz_drewN, sz_iterAt, sz_iter] at *; omega) | omega | (simp; done) | (simp; omega) | (apply Below.size; assumption) | (simp only [sz_drew, sz_drewN]; apply Below.size; assumption) | (refine Nat.le_trans ?_ (Below.size (by assumption)))))⟩
        · rw [e0, e1, e2] at hB
          have HB := Lib.hid hB
          clear hB
          go_enter Tryz.func15, Tryz.ntmps15
          go_wp2_with fail
          refine (vSound_any v _ hv (hE.below (by repeat' (first | (with_reducible exact Below.refl _ _) | (with_reducible assumption) | (with_reducible refine Below.drew ?_) | (with_reducible refine below_drewN ?_ _) | (with_reducible refine below_iterAt ?_ ?_ _ _) | (with_reducible refine below_iter ?_ ?_ _ _) | (with_reducible refine Below.alloc ?_ ?_ _) | (with_reducible refine Below.setCell ?_ ?_ _) | (with_reducible refine Below.trans ?_ (Below.mono (by assumption) ?_)) | (simp only [sz_alloc, sz_set, sz_drew, sz_drewN, sz_iterAt, sz_iter] at *; omega) | omega | (simp; done) | (simp; omega) | (apply Below.size; assumption) | (simp only [sz_drew, sz_drewN]; apply Below.size; assumption) | (refine Nat.le_trans ?_ (Below.size (by assumption))))))).mono ?_
          rintro e w1 ⟨rfl, hb1⟩
          rw [hs]
          clear hs
          obtain ⟨hc1, hf1⟩ := bcell hb1
          have hz1 := hb1.size
          try simp at hz1
          have q1_0 := fun o => hc1 (w.heap.size) o (by first | omega | (simp only [sz_alloc, sz_set, sz_drew, sz_drewN, sz_iterAt, sz_iter] at *; omega) | (simp; done) | (simp; omega) | (simp at *; omega))
          have l1_0 : w.heap.size < w1.heap.size := by omega
          have r1_0 := fun o => hf1 (w.heap.size) o (by first | omega | (simp only [sz_alloc, sz_set, sz_drew, sz_drewN, sz_iterAt, sz_iter] at *; omega) | (simp; done) | (simp; omega) | (simp at *; omega))
          clear hc1 hf1
          go_wp2_with fail
          go_ret
          exact ⟨ret_bool (by rw [← HB.out]; simp), (by repeat' (first | (with_reducible exact Below.refl _ _) | (with_reducible assumption) | (with_reducible refine Below.drew ?_) | (with_reducible refine below_drewN ?_ _) | (with_reducible refine below_iterAt ?_ ?_ _ _) | (with_reducible refine below_iter ?_ ?_ _ _) | (with_reducible refine Below.alloc ?_ ?_ _) | (with_reducible refine Below.setCell ?_ ?_ _) | (with_reducible refine Below.trans ?_ (Below.mono (by assumption) ?_)) | (simp only [sz_alloc, sz_set, sz_drew, sz_drewN, sz_iterAt, sz_iter] at *; omega) | omega | (simp; done) | (simp; omega) | (apply Below.size; assumption) | (simp only [sz_drew, sz_drewN]; apply Below.size; assumption) | (refine Nat.le_trans ?_ (Below.size (by assumption)))))⟩
    · rw [e0] at hB
      have HB := Lib.hid hB
      clear hB
      go_enter Tryz.func15, Tryz.ntmps15
      go_wp2_with fail
      refine (vSound_any v _ hv (hE.below (by repeat' (first | (with_reducible exact Below.refl _ _) | (with_reducible assumption) | (with_reducible refine Below.drew ?_) | (with_reducible refine below_drewN ?_ _) | (with_reducible refine below_iterAt ?_ ?_ _ _) | (with_reducible refine below_iter ?_ ?_ _ _) | (with_reducible refine Below.alloc ?_ ?_ _) | (with_reducible refine Below.setCell ?_ ?_ _) | (with_reducible refine Below.trans ?_ (Below.mono (by assumption) ?_)) | (simp only [sz_alloc, sz_set, sz_drew, sz_drewN, sz_iterAt, sz_iter] at *; omega) | omega | (simp; done) | (simp; omega) | (apply Below.size; assumption) | (simp only [sz_drew, sz_drewN]; apply Below.size; assumption) | (refine Nat.le_trans ?_ (Below.size (by assumption))))))).mono ?_
      rintro e w1 ⟨rfl, hb1⟩
      rw [hs]
      clear hs
      obtain ⟨hc1, hf1⟩ := bcell hb1
      have hz1 := hb1.size
      try simp at hz1
      have q1_0 := fun o => hc1 (w.heap.size) o (by first | omega | (simp only [sz_alloc, sz_set, sz_drew, sz_drewN, sz_iterAt, sz_iter] at *; omega) | (simp; done) | (simp; omega) | (simp at *; omega))
      have l1_0 : w.heap.size < w1.heap.size := by omega
      have r1_0 := fun o => hf1 (w.heap.size) o (by first | omega | (simp only [sz_alloc, sz_set, sz_drew, sz_drewN, sz_iterAt, sz_iter] at *; omega) | (simp; done) | (simp; omega) | (simp at *; omega))
      clear hc1 hf1
      go_wp2_with fail
      go_ret
      exact ⟨ret_bool (by rw [← HB.out]; simp), (by repeat' (first | (with_reducible exact Below.refl _ _) | (with_reducible assumption) | (with_reducible refine Below.drew ?_) | (with_reducible refine below_drewN ?_ _) | (with_reducible refine below_iterAt ?_ ?_ _ _) | (with_reducible refine below_iter ?_ ?_ _ _) | (with_reducible refine Below.alloc ?_ ?_ _) | (with_reducible refine Below.setCell ?_ ?_ _) | (with_reducible refine Below.trans ?_ (Below.mono (by assumption) ?_)) | (simp only [sz_alloc, sz_set, sz_drew, sz_drewN, sz_iterAt, sz_iter] at *; omega) | omega | (simp; done) | (simp; omega) | (apply Below.size; assumption) | (simp only [sz_drew, sz_drewN]; apply Below.size; assumption) | (refine Nat.le_trans ?_ (Below.size (by assumption)))))⟩

set_option maxRecDepth 100000 in
set_option maxHeartbeats 3200000 in
theorem rFits_any (v : Vl) (k s : Int) (w : World) (hv : v.wf) :
    Calls Tryz.prog 16 #[.agg #[.int .i64 v.k, .int .i64 v.n, .int .i64 v.s, .string v.t, .int .i64 v.i], .int .i64 k, .int .i64 s] w fun e w' => e = .returned (.bool (fitB v k s)) ∧ Below w.heap.size w w' := by
  obtain ⟨B, hB⟩ : ∃ B, fitB v k s = B := ⟨_, rfl⟩
  rw [hB]
  unfold fitB at hB
  cases hs : sndB v
  · rw [hs] at hB
    have HB := Lib.hid hB
    clear hB
    go_enter Tryz.func16, Tryz.ntmps16
    go_wp2_with fail
    refine (rSound_any v _ hv).mono ?_
    rintro e w1 ⟨rfl, hb1⟩
    rw [hs]
    clear hs
    go_wp2_with fail
    go_ret
    exact ⟨ret_bool (by rw [← HB.out]; rfl), (by repeat' (first | (with_reducible exact Below.refl _ _) | (with_reducible assumption) | (with_reducible refine Below.drew ?_) | (with_reducible refine below_drewN ?_ _) | (with_reducible refine below_iterAt ?_ ?_ _ _) | (with_reducible refine below_iter ?_ ?_ _ _) | (with_reducible refine Below.alloc ?_ ?_ _) | (with_reducible refine Below.setCell ?_ ?_ _) | (with_reducible refine Below.trans ?_ (Below.mono (by assumption) ?_)) | (simp only [sz_alloc, sz_set, sz_drew, sz_drewN, sz_iterAt, sz_iter] at *; omega) | omega | (simp; done) | (simp; omega) | (apply Below.size; assumption) | (simp only [sz_drew, sz_drewN]; apply Below.size; assumption) | (refine Nat.le_trans ?_ (Below.size (by assumption)))))⟩
  · rw [hs] at hB
    cases e0 : (v.k == 0)
    · cases e1 : (v.k == k)
      · rw [e0, e1] at hB
        have HB := Lib.hid hB
        clear hB
        go_enter Tryz.func16, Tryz.ntmps16
        go_wp2_with fail
        refine (rSound_any v _ hv).mono ?_
        rintro e w1 ⟨rfl, hb1⟩
        rw [hs]
        clear hs
        obtain ⟨hc1, hf1⟩ := bcell hb1
        have hz1 := hb1.size
        try simp at hz1
        have q1_0 := fun o => hc1 (w.heap.size) o (by first | omega | (simp only [sz_alloc, sz_set, sz_drew, sz_drewN, sz_iterAt, sz_iter] at *; omega) | (simp; done) | (simp; omega) | (simp at *; omega))
        have l1_0 : w.heap.size < w1.heap.size := by omega
        have r1_0 := fun o => hf1 (w.heap.size) o (by first | omega | (simp only [sz_alloc, sz_set, sz_drew, sz_drewN, sz_iterAt, sz_iter] at *; omega) | (simp; done) | (simp; omega) | (simp at *; omega))
        clear hc1 hf1
        go_wp2_with fail
        go_ret
        exact ⟨ret_bool (by rw [← HB.out]; simp), (by repeat' (first | (with_reducible exact Below.refl _ _) | (with_reducible assumption) | (with_reducible refine Below.drew ?_) | (with_reducible refine below_drewN ?_ _) | (with_reducible refine below_iterAt ?_ ?_ _ _) | (with_reducible refine below_iter ?_ ?_ _ _) | (with_reducible refine Below.alloc ?_ ?_ _) | (with_reducible refine Below.setCell ?_ ?_ _) | (with_reducible refine Below.trans ?_ (Below.mono (by assumption) ?_)) | (simp only [sz_alloc, sz_set, sz_drew, sz_drewN, sz_iterAt, sz_iter] at *; omega) | omega | (simp; done) | (simp; omega) | (apply Below.size; assumption) | (simp only [sz_drew, sz_drewN]; apply Below.size; assumption) | (refine Nat.le_trans ?_ (Below.size (by assumption)))))⟩
      · have ekk : v.k = k := by simpa using e1
        cases e2 : (k != 1)
        · have e3 : (v.k != 1) = false := by rw [ekk]; exact e2
          clear ekk
          rw [e0, e1, e2] at hB
          have HB := Lib.hid hB
          clear hB
          go_enter Tryz.func16, Tryz.ntmps16
          go_wp2_with fail
          refine (rSound_any v _ hv).mono ?_
          rintro e w1 ⟨rfl, hb1⟩
          rw [hs]
          clear hs
          obtain ⟨hc1, hf1⟩ := bcell hb1
          have hz1 := hb1.size
          try simp at hz1
          have q1_0 := fun o => hc1 (w.heap.size) o (by first | omega | (simp only [sz_alloc, sz_set, sz_drew, sz_drewN, sz_iterAt, sz_iter] at *; omega) | (simp; done) | (simp; omega) | (simp at *; omega))
          have l1_0 : w.heap.size < w1.heap.size := by omega
          have r1_0 := fun o => hf1 (w.heap.size) o (by first | omega | (simp only [sz_alloc, sz_set, sz_drew, sz_drewN, sz_iterAt, sz_iter] at *; omega) | (simp; done) | (simp; omega) | (simp at *; omega))
          clear hc1 hf1
          go_wp2_with fail
          go_ret
          exact ⟨ret_bool (by rw [← HB.out]; simp), (by repeat' (first | (with_reducible exact Below.refl _ _) | (with_reducible assumption) | (with_reducible refine Below.drew ?_) | (with_reducible refine below_drewN ?_ _) | (with_reducible refine below_iterAt ?_ ?_ _ _) | (with_reducible refine below_iter ?_ ?_ _ _) | (with_reducible refine Below.alloc ?_ ?_ _) | (with_reducible refine Below.setCell ?_ ?_ _) | (with_reducible refine Below.trans ?_ (Below.mono (by assumption) ?_)) | (simp only [sz_alloc, sz_set, sz_drew, sz_drewN, sz_iterAt, sz_iter] at *; omega) | omega | (simp; done) | (simp; omega) | (apply Below.size; assumption) | (simp only [sz_drew, sz_drewN]; apply Below.size; assumption) | (refine Nat.le_trans ?_ (Below.size (by assumption)))))⟩
        · have e3 : (v.k != 1) = true := by rw [ekk]; exact e2
          clear ekk
          rw [e0, e1, e2] at hB
          have HB := Lib.hid hB
          clear hB
          go_enter Tryz.func16, Tryz.ntmps16
          go_wp2_with fail
          refine (rSound_any v _ hv).mono ?_
          rintro e w1 ⟨rfl, hb1⟩
          rw [hs]
          clear hs
          obtain ⟨hc1, hf1⟩ := bcell hb1
          have hz1 := hb1.size
          try simp at hz1
          have q1_0 := fun o => hc1 (w.heap.size) o (by first | omega | (simp only [sz_alloc, sz_set, sz_drew, sz_drewN, sz_iterAt, sz_iter] at *; omega) | (simp; done) | (simp; omega) | (simp at *; omega))
          have l1_0 : w.heap.size < w1.heap.size := by omega
          have r1_0 := fun o => hf1 (w.heap.size) o (by first | omega | (simp only [sz_alloc, sz_set, sz_drew, sz_drewN, sz_iterAt, sz_iter] at *; omega) | (simp; done) | (simp; omega) | (simp at *; omega))
          clear hc1 hf1
          go_wp2_with fail
          go_ret
          exact ⟨ret_bool (by rw [← HB.out]; simp), (by repeat' (first | (with_reducible exact Below.refl _ _) | (with_reducible assumption) | (with_reducible refine Below.drew ?_) | (with_reducible refine below_drewN ?_ _) | (with_reducible refine below_iterAt ?_ ?_ _ _) | (with_reducible refine below_iter ?_ ?_ _ _) | (with_reducible refine Below.alloc ?_ ?_ _) | (with_reducible refine Below.setCell ?_ ?_ _) | (with_reducible refine Below.trans ?_ (Below.mono (by assumption) ?_)) | (simp only [sz_alloc, sz_set, sz_drew, sz_drewN, sz_iterAt, sz_iter] at *; omega) | omega | (simp; done) | (simp; omega) | (apply Below.size; assumption) | (simp only [sz_drew, sz_drewN]; apply Below.size; assumption) | (refine Nat.le_trans ?_ (Below.size (by assumption)))))⟩
    · rw [e0] at hB
      have HB := Lib.hid hB
      clear hB
      go_enter Tryz.func16, Tryz.ntmps16
      go_wp2_with fail
      refine (rSound_any v _ hv).mono ?_
      rintro e w1 ⟨rfl, hb1⟩
      rw [hs]
      clear hs
      obtain ⟨hc1, hf1⟩ := bcell hb1
      have hz1 := hb1.size
      try simp at hz1
      have q1_0 := fun o => hc1 (w.heap.size) o (by first | omega | (simp only [sz_alloc, sz_set, sz_drew, sz_drewN, sz_iterAt, sz_iter] at *; omega) | (simp; done) | (simp; omega) | (simp at *; omega))
      have l1_0 : w.heap.size < w1.heap.size := by omega
      have r1_0 := fun o => hf1 (w.heap.size) o (by first | omega | (simp only [sz_alloc, sz_set, sz_drew, sz_drewN, sz_iterAt, sz_iter] at *; omega) | (simp; done) | (simp; omega) | (simp at *; omega))
      clear hc1 hf1
      go_wp2_with fail
      go_ret
      exact ⟨ret_bool (by rw [← HB.out]; simp), (by repeat' (first | (with_reducible exact Below.refl _ _) | (with_reducible assumption) | (with_reducible refine Below.drew ?_) | (with_reducible refine below_drewN ?_ _) | (with_reducible refine below_iterAt ?_ ?_ _ _) | (with_reducible refine below_iter ?_ ?_ _ _) | (with_reducible refine Below.alloc ?_ ?_ _) | (with_reducible refine Below.setCell ?_ ?_ _) | (with_reducible refine Below.trans ?_ (Below.mono (by assumption) ?_)) | (simp only [sz_alloc, sz_set, sz_drew, sz_drewN, sz_iterAt, sz_iter] at *; omega) | omega | (simp; done) | (simp; omega) | (apply Below.size; assumption) | (simp only [sz_drew, sz_drewN]; apply Below.size; assumption) | (refine Nat.le_trans ?_ (Below.size (by assumption)))))⟩
end Go.Proofs.YthicilfhnakhmaaGreatDoor
