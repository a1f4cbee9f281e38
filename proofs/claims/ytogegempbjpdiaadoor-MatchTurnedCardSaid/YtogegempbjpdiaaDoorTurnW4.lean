/- soffitlaw12.MatchTurned, walked: case 4. -/
import Derived.Test.YtogegempbjpdiaaDoorTurned
set_option linter.unusedSimpArgs false
set_option linter.unusedVariables false
namespace Go.Proofs.YtogegempbjpdiaaDoor
open Go.RowKit

set_option maxRecDepth 100000 in
set_option maxHeartbeats 6400000 in
theorem turned_walk4 (c : Cel) (v u : Vl) (A : Option Addr) (cap : Nat) (w : World) (hr : RdL w 13 A (c.ts.map Tst.cells)) (hw : ∀ t ∈ c.ts, t.wf) (hv : v.wf) (hu : u.wf) (hn : c.ts.length ≤ 9223372036854775807) (hE : Env w)
    (a b x y : Bool) (g h : Int) (ra : allRes c v = .tuple #[.bool a, .int .i64 2]) (rb : allRes c.turn v = .tuple #[.bool b, .int .i64 0]) (rx : oneRes (tLess u) v = .tuple #[.bool x, .int .i64 g]) (ry : oneRes (tLeast u) v = .tuple #[.bool y, .int .i64 h])
    (hany : c.any = true)
    (hend : (g = 2 ∧ h = 2) ∨ (g = 0 ∧ h = 0 ∧ x = true ∧ y = false ∧ (v.k == u.k) = true) ∨ (g = 0 ∧ h = 0 ∧ x = false ∧ y = true ∧ (v.k == u.k) = true) ∨ (g = 0 ∧ h = 0 ∧ x = false ∧ y = false ∧ (v.k == u.k) = false)) :
    Calls Tryd.prog 6 #[.agg #[.bool c.any, .bool c.neg, .slice A c.ts.length cap], .agg #[.int .i64 v.k, .int .i64 v.n, .int .i64 v.s, .string v.t, .int .i64 v.i], .agg #[.int .i64 u.k, .int .i64 u.n, .int .i64 u.s, .string u.t, .int .i64 u.i]] w fun e w' =>
      e = .returned (.bool true) ∧ Below w.heap.size w w' := by
  obtain ⟨cany, neg, ts⟩ := c
  have hany' : cany = true := hany
  subst hany'
  clear hany
  simp only at hr hw hn ⊢
  have HX := Lib.hid hend
  clear hend
  go_enter Tryd.func6, Tryd.ntmps6
  go_wp2_with fail
  generalize hEW0 : ((w.alloc _).alloc _).alloc _ = W0
  have hbW0 : Below w.heap.size w W0 := (by rw [← hEW0]; exact (by repeat' (first | (with_reducible exact Below.refl _ _) | (with_reducible assumption) | (with_reducible refine Below.drew ?_) | (with_reducible refine below_drewN ?_ _) | (with_reducible refine below_iterAt ?_ ?_ _ _) | (with_reducible refine below_iter ?_ ?_ _ _) | (with_reducible refine Below.alloc ?_ ?_ _) | (with_reducible refine Below.setCell ?_ ?_ _) | (with_reducible refine Below.trans ?_ (Below.mono (by assumption) ?_)) | (simp only [sz_alloc, sz_set, sz_drew, sz_drewN, sz_iterAt, sz_iter] at *; omega) | omega | (simp; done) | (simp; omega) | (apply Below.size; assumption) | (simp only [sz_drew, sz_drewN]; apply Below.size; assumption) | (refine Nat.le_trans ?_ (Below.size (by assumption))))))
  have lW0_0 : w.heap.size < W0.heap.size := (by rw [← hEW0]; first | omega | (simp only [sz_alloc, sz_set, sz_drew, sz_drewN, sz_iterAt, sz_iter] at *; omega) | (simp; done) | (simp; omega) | (simp at *; omega))
  have qW0_0 : ∀ o, W0.cell? ⟨w.heap.size, o, none⟩ = _ := fun o => congrArg (fun W : World => W.cell? ⟨w.heap.size, o, none⟩) hEW0.symm
  have rW0_0 : ∀ o, W0.frozen? ⟨w.heap.size, o, none⟩ = _ := fun o => congrArg (fun W : World => W.frozen? ⟨w.heap.size, o, none⟩) hEW0.symm
  have lW0_1 : w.heap.size + 1 < W0.heap.size := (by rw [← hEW0]; first | omega | (simp only [sz_alloc, sz_set, sz_drew, sz_drewN, sz_iterAt, sz_iter] at *; omega) | (simp; done) | (simp; omega) | (simp at *; omega))
  have qW0_1 : ∀ o, W0.cell? ⟨w.heap.size + 1, o, none⟩ = _ := fun o => congrArg (fun W : World => W.cell? ⟨w.heap.size + 1, o, none⟩) hEW0.symm
  have rW0_1 : ∀ o, W0.frozen? ⟨w.heap.size + 1, o, none⟩ = _ := fun o => congrArg (fun W : World => W.frozen? ⟨w.heap.size + 1, o, none⟩) hEW0.symm
  have lW0_2 : w.heap.size + 2 < W0.heap.size := (by rw [← hEW0]; first | omega | (simp only [sz_alloc, sz_set, sz_drew, sz_drewN, sz_iterAt, sz_iter] at *; omega) | (simp; done) | (simp; omega) | (simp at *; omega))
  have qW0_2 : ∀ o, W0.cell? ⟨w.heap.size + 2, o, none⟩ = _ := fun o => congrArg (fun W : World => W.cell? ⟨w.heap.size + 2, o, none⟩) hEW0.symm
  have rW0_2 : ∀ o, W0.frozen? ⟨w.heap.size + 2, o, none⟩ = _ := fun o => congrArg (fun W : World => W.frozen? ⟨w.heap.size + 2, o, none⟩) hEW0.symm
  clear hEW0
  refine (mAll_any ⟨true, neg, ts⟩ v A cap _ (hr.below hbW0) hw hv hn (hE.below hbW0)).mono ?_
  rintro e w1 ⟨rfl, hb1⟩
  rw [ra]
  clear ra
  obtain ⟨hc1, hf1⟩ := bcell hb1
  have hz1 := hb1.size
  try simp at hz1
  have q1_0 := fun o => hc1 (w.heap.size) o (by first | omega | (simp only [sz_alloc, sz_set, sz_drew, sz_drewN, sz_iterAt, sz_iter] at *; omega) | (simp; done) | (simp; omega) | (simp at *; omega))
  have l1_0 : w.heap.size < w1.heap.size := by omega
  have r1_0 := fun o => hf1 (w.heap.size) o (by first | omega | (simp only [sz_alloc, sz_set, sz_drew, sz_drewN, sz_iterAt, sz_iter] at *; omega) | (simp; done) | (simp; omega) | (simp at *; omega))
  have q1_1 := fun o => hc1 (w.heap.size + 1) o (by first | omega | (simp only [sz_alloc, sz_set, sz_drew, sz_drewN, sz_iterAt, sz_iter] at *; omega) | (simp; done) | (simp; omega) | (simp at *; omega))
  have l1_1 : w.heap.size + 1 < w1.heap.size := by omega
  have r1_1 := fun o => hf1 (w.heap.size + 1) o (by first | omega | (simp only [sz_alloc, sz_set, sz_drew, sz_drewN, sz_iterAt, sz_iter] at *; omega) | (simp; done) | (simp; omega) | (simp at *; omega))
  have q1_2 := fun o => hc1 (w.heap.size + 2) o (by first | omega | (simp only [sz_alloc, sz_set, sz_drew, sz_drewN, sz_iterAt, sz_iter] at *; omega) | (simp; done) | (simp; omega) | (simp at *; omega))
  have l1_2 : w.heap.size + 2 < w1.heap.size := by omega
  have r1_2 := fun o => hf1 (w.heap.size + 2) o (by first | omega | (simp only [sz_alloc, sz_set, sz_drew, sz_drewN, sz_iterAt, sz_iter] at *; omega) | (simp; done) | (simp; omega) | (simp at *; omega))
  clear hc1 hf1
  have k0 : w1.cell? ⟨w.heap.size, 0, none⟩ = some (.bool true) := (by first | (simp [go_sem]; done) | (simp [go_sem, *]; done))
  have k1 : w1.cell? ⟨w.heap.size, 1, none⟩ = some (.bool neg) := (by first | (simp [go_sem]; done) | (simp [go_sem, *]; done))
  have k2 : w1.cell? ⟨w.heap.size, 2, none⟩ = some (.slice A ts.length cap) := (by first | (simp [go_sem]; done) | (simp [go_sem, *]; done))
  have s0 : (w1.setCell ⟨w.heap.size, 1, none⟩ (.bool (!neg))).cell? ⟨w.heap.size, 0, none⟩ = some (.bool true) := (World.cell?_setCell_other _ _ _ _ (by intro hh; injection hh with _ h2; cases h2)).trans k0
  have s1 : (w1.setCell ⟨w.heap.size, 1, none⟩ (.bool (!neg))).cell? ⟨w.heap.size, 1, none⟩ = some (.bool (!neg)) := World.cell?_setCell_same _ _ _ k1
  have s2 : (w1.setCell ⟨w.heap.size, 1, none⟩ (.bool (!neg))).cell? ⟨w.heap.size, 2, none⟩ = some (.slice A ts.length cap) := (World.cell?_setCell_other _ _ _ _ (by intro hh; injection hh with _ h2; cases h2)).trans k2
  have s3 : ∀ o, (w1.setCell ⟨w.heap.size, 1, none⟩ (.bool (!neg))).cell? ⟨w.heap.size + 1, o, none⟩ = w1.cell? ⟨w.heap.size + 1, o, none⟩ := fun o => World.cell?_setCell_far _ _ _ _ (by show w.heap.size ≠ w.heap.size + 1; omega)
  have s4 : ∀ o, (w1.setCell ⟨w.heap.size, 1, none⟩ (.bool (!neg))).cell? ⟨w.heap.size + 2, o, none⟩ = w1.cell? ⟨w.heap.size + 2, o, none⟩ := fun o => World.cell?_setCell_far _ _ _ _ (by show w.heap.size ≠ w.heap.size + 2; omega)
  clear k0 k2
  go_wp2_with fail
  obtain ⟨W1, hEW1⟩ : ∃ W1, w1.setCell ⟨w.heap.size, 1, none⟩ (.bool (!neg)) = W1 := ⟨_, rfl⟩
  rw [hEW1] at s0 s1 s2 s3 s4 ⊢
  have hbW1 : Below w.heap.size w W1 := by rw [← hEW1]; exact (by repeat' (first | (with_reducible exact Below.refl _ _) | (with_reducible assumption) | (with_reducible refine Below.drew ?_) | (with_reducible refine below_drewN ?_ _) | (with_reducible refine below_iterAt ?_ ?_ _ _) | (with_reducible refine below_iter ?_ ?_ _ _) | (with_reducible refine Below.alloc ?_ ?_ _) | (with_reducible refine Below.setCell ?_ ?_ _) | (with_reducible refine Below.trans ?_ (Below.mono (by assumption) ?_)) | (simp only [sz_alloc, sz_set, sz_drew, sz_drewN, sz_iterAt, sz_iter] at *; omega) | omega | (simp; done) | (simp; omega) | (apply Below.size; assumption) | (simp only [sz_drew, sz_drewN]; apply Below.size; assumption) | (refine Nat.le_trans ?_ (Below.size (by assumption)))))
  have hzW1 : W1.heap.size = w1.heap.size := by rw [← hEW1]; exact sz_set _ _ _
  have lW1_0 : w.heap.size < W1.heap.size := by omega
  have lW1_1 : w.heap.size + 1 < W1.heap.size := by omega
  have lW1_2 : w.heap.size + 2 < W1.heap.size := by omega
  clear hEW1 k1
  refine (mAll_any (Cel.turn ⟨true, neg, ts⟩) v A cap W1 (hr.below hbW1) hw hv hn (hE.below hbW1)).mono ?_
  rintro e w2 ⟨rfl, hb2⟩
  rw [rb]
  clear rb
  obtain ⟨hc2, hf2⟩ := bcell hb2
  have hz2 := hb2.size
  try simp at hz2
  have q2_0 := fun o => hc2 (w.heap.size) o (by first | omega | (simp only [sz_alloc, sz_set, sz_drew, sz_drewN, sz_iterAt, sz_iter] at *; omega) | (simp; done) | (simp; omega) | (simp at *; omega))
  have l2_0 : w.heap.size < w2.heap.size := by omega
  have r2_0 := fun o => hf2 (w.heap.size) o (by first | omega | (simp only [sz_alloc, sz_set, sz_drew, sz_drewN, sz_iterAt, sz_iter] at *; omega) | (simp; done) | (simp; omega) | (simp at *; omega))
  have q2_1 := fun o => hc2 (w.heap.size + 1) o (by first | omega | (simp only [sz_alloc, sz_set, sz_drew, sz_drewN, sz_iterAt, sz_iter] at *; omega) | (simp; done) | (simp; omega) | (simp at *; omega))
  have l2_1 : w.heap.size + 1 < w2.heap.size := by omega
  have r2_1 := fun o => hf2 (w.heap.size + 1) o (by first | omega | (simp only [sz_alloc, sz_set, sz_drew, sz_drewN, sz_iterAt, sz_iter] at *; omega) | (simp; done) | (simp; omega) | (simp at *; omega))
  have q2_2 := fun o => hc2 (w.heap.size + 2) o (by first | omega | (simp only [sz_alloc, sz_set, sz_drew, sz_drewN, sz_iterAt, sz_iter] at *; omega) | (simp; done) | (simp; omega) | (simp at *; omega))
  have l2_2 : w.heap.size + 2 < w2.heap.size := by omega
  have r2_2 := fun o => hf2 (w.heap.size + 2) o (by first | omega | (simp only [sz_alloc, sz_set, sz_drew, sz_drewN, sz_iterAt, sz_iter] at *; omega) | (simp; done) | (simp; omega) | (simp at *; omega))
  clear hc2 hf2
  go_wp2_with fail
  refine (awake_any _ (hE.below (by repeat' (first | (with_reducible exact Below.refl _ _) | (with_reducible assumption) | (with_reducible refine Below.drew ?_) | (with_reducible refine below_drewN ?_ _) | (with_reducible refine below_iterAt ?_ ?_ _ _) | (with_reducible refine below_iter ?_ ?_ _ _) | (with_reducible refine Below.alloc ?_ ?_ _) | (with_reducible refine Below.setCell ?_ ?_ _) | (with_reducible refine Below.trans ?_ (Below.mono (by assumption) ?_)) | (simp only [sz_alloc, sz_set, sz_drew, sz_drewN, sz_iterAt, sz_iter] at *; omega) | omega | (simp; done) | (simp; omega) | (apply Below.size; assumption) | (simp only [sz_drew, sz_drewN]; apply Below.size; assumption) | (refine Nat.le_trans ?_ (Below.size (by assumption))))))).mono ?_
  rintro e w3 ⟨rfl, hb3⟩
  obtain ⟨hc3, hf3⟩ := bcell hb3
  have hz3 := hb3.size
  try simp at hz3
  have q3_0 := fun o => hc3 (w.heap.size) o (by first | omega | (simp only [sz_alloc, sz_set, sz_drew, sz_drewN, sz_iterAt, sz_iter] at *; omega) | (simp; done) | (simp; omega) | (simp at *; omega))
  have l3_0 : w.heap.size < w3.heap.size := by omega
  have r3_0 := fun o => hf3 (w.heap.size) o (by first | omega | (simp only [sz_alloc, sz_set, sz_drew, sz_drewN, sz_iterAt, sz_iter] at *; omega) | (simp; done) | (simp; omega) | (simp at *; omega))
  have q3_1 := fun o => hc3 (w.heap.size + 1) o (by first | omega | (simp only [sz_alloc, sz_set, sz_drew, sz_drewN, sz_iterAt, sz_iter] at *; omega) | (simp; done) | (simp; omega) | (simp at *; omega))
  have l3_1 : w.heap.size + 1 < w3.heap.size := by omega
  have r3_1 := fun o => hf3 (w.heap.size + 1) o (by first | omega | (simp only [sz_alloc, sz_set, sz_drew, sz_drewN, sz_iterAt, sz_iter] at *; omega) | (simp; done) | (simp; omega) | (simp at *; omega))
  have q3_2 := fun o => hc3 (w.heap.size + 2) o (by first | omega | (simp only [sz_alloc, sz_set, sz_drew, sz_drewN, sz_iterAt, sz_iter] at *; omega) | (simp; done) | (simp; omega) | (simp at *; omega))
  have l3_2 : w.heap.size + 2 < w3.heap.size := by omega
  have r3_2 := fun o => hf3 (w.heap.size + 2) o (by first | omega | (simp only [sz_alloc, sz_set, sz_drew, sz_drewN, sz_iterAt, sz_iter] at *; omega) | (simp; done) | (simp; omega) | (simp at *; omega))
  clear hc3 hf3
  go_wp2_with fail
  refine (matchOne_any (tLess u) v _ (tst_one_wf (by omega) hu) hv (hE.below (by repeat' (first | (with_reducible exact Below.refl _ _) | (with_reducible assumption) | (with_reducible refine Below.drew ?_) | (with_reducible refine below_drewN ?_ _) | (with_reducible refine below_iterAt ?_ ?_ _ _) | (with_reducible refine below_iter ?_ ?_ _ _) | (with_reducible refine Below.alloc ?_ ?_ _) | (with_reducible refine Below.setCell ?_ ?_ _) | (with_reducible refine Below.trans ?_ (Below.mono (by assumption) ?_)) | (simp only [sz_alloc, sz_set, sz_drew, sz_drewN, sz_iterAt, sz_iter] at *; omega) | omega | (simp; done) | (simp; omega) | (apply Below.size; assumption) | (simp only [sz_drew, sz_drewN]; apply Below.size; assumption) | (refine Nat.le_trans ?_ (Below.size (by assumption))))))).mono ?_
  rintro e w4 ⟨rfl, hb4⟩
  rw [rx]
  clear rx
  obtain ⟨hc4, hf4⟩ := bcell hb4
  have hz4 := hb4.size
  try simp at hz4
  have q4_0 := fun o => hc4 (w.heap.size) o (by first | omega | (simp only [sz_alloc, sz_set, sz_drew, sz_drewN, sz_iterAt, sz_iter] at *; omega) | (simp; done) | (simp; omega) | (simp at *; omega))
  have l4_0 : w.heap.size < w4.heap.size := by omega
  have r4_0 := fun o => hf4 (w.heap.size) o (by first | omega | (simp only [sz_alloc, sz_set, sz_drew, sz_drewN, sz_iterAt, sz_iter] at *; omega) | (simp; done) | (simp; omega) | (simp at *; omega))
  have q4_1 := fun o => hc4 (w.heap.size + 1) o (by first | omega | (simp only [sz_alloc, sz_set, sz_drew, sz_drewN, sz_iterAt, sz_iter] at *; omega) | (simp; done) | (simp; omega) | (simp at *; omega))
  have l4_1 : w.heap.size + 1 < w4.heap.size := by omega
  have r4_1 := fun o => hf4 (w.heap.size + 1) o (by first | omega | (simp only [sz_alloc, sz_set, sz_drew, sz_drewN, sz_iterAt, sz_iter] at *; omega) | (simp; done) | (simp; omega) | (simp at *; omega))
  have q4_2 := fun o => hc4 (w.heap.size + 2) o (by first | omega | (simp only [sz_alloc, sz_set, sz_drew, sz_drewN, sz_iterAt, sz_iter] at *; omega) | (simp; done) | (simp; omega) | (simp at *; omega))
  have l4_2 : w.heap.size + 2 < w4.heap.size := by omega
  have r4_2 := fun o => hf4 (w.heap.size + 2) o (by first | omega | (simp only [sz_alloc, sz_set, sz_drew, sz_drewN, sz_iterAt, sz_iter] at *; omega) | (simp; done) | (simp; omega) | (simp at *; omega))
  clear hc4 hf4
  go_wp2_with fail
  refine (matchOne_any (tLeast u) v _ (tst_one_wf (by omega) hu) hv (hE.below (by repeat' (first | (with_reducible exact Below.refl _ _) | (with_reducible assumption) | (with_reducible refine Below.drew ?_) | (with_reducible refine below_drewN ?_ _) | (with_reducible refine below_iterAt ?_ ?_ _ _) | (with_reducible refine below_iter ?_ ?_ _ _) | (with_reducible refine Below.alloc ?_ ?_ _) | (with_reducible refine Below.setCell ?_ ?_ _) | (with_reducible refine Below.trans ?_ (Below.mono (by assumption) ?_)) | (simp only [sz_alloc, sz_set, sz_drew, sz_drewN, sz_iterAt, sz_iter] at *; omega) | omega | (simp; done) | (simp; omega) | (apply Below.size; assumption) | (simp only [sz_drew, sz_drewN]; apply Below.size; assumption) | (refine Nat.le_trans ?_ (Below.size (by assumption))))))).mono ?_
  rintro e w5 ⟨rfl, hb5⟩
  rw [ry]
  clear ry
  obtain ⟨hc5, hf5⟩ := bcell hb5
  have hz5 := hb5.size
  try simp at hz5
  have q5_0 := fun o => hc5 (w.heap.size) o (by first | omega | (simp only [sz_alloc, sz_set, sz_drew, sz_drewN, sz_iterAt, sz_iter] at *; omega) | (simp; done) | (simp; omega) | (simp at *; omega))
  have l5_0 : w.heap.size < w5.heap.size := by omega
  have r5_0 := fun o => hf5 (w.heap.size) o (by first | omega | (simp only [sz_alloc, sz_set, sz_drew, sz_drewN, sz_iterAt, sz_iter] at *; omega) | (simp; done) | (simp; omega) | (simp at *; omega))
  have q5_1 := fun o => hc5 (w.heap.size + 1) o (by first | omega | (simp only [sz_alloc, sz_set, sz_drew, sz_drewN, sz_iterAt, sz_iter] at *; omega) | (simp; done) | (simp; omega) | (simp at *; omega))
  have l5_1 : w.heap.size + 1 < w5.heap.size := by omega
  have r5_1 := fun o => hf5 (w.heap.size + 1) o (by first | omega | (simp only [sz_alloc, sz_set, sz_drew, sz_drewN, sz_iterAt, sz_iter] at *; omega) | (simp; done) | (simp; omega) | (simp at *; omega))
  have q5_2 := fun o => hc5 (w.heap.size + 2) o (by first | omega | (simp only [sz_alloc, sz_set, sz_drew, sz_drewN, sz_iterAt, sz_iter] at *; omega) | (simp; done) | (simp; omega) | (simp at *; omega))
  have l5_2 : w.heap.size + 2 < w5.heap.size := by omega
  have r5_2 := fun o => hf5 (w.heap.size + 2) o (by first | omega | (simp only [sz_alloc, sz_set, sz_drew, sz_drewN, sz_iterAt, sz_iter] at *; omega) | (simp; done) | (simp; omega) | (simp at *; omega))
  clear hc5 hf5
  rcases HX.out with ⟨rfl, rfl⟩ | ⟨rfl, rfl, rfl, rfl, hk⟩ | ⟨rfl, rfl, rfl, rfl, hk⟩ | ⟨rfl, rfl, rfl, rfl, hk⟩
  all_goals
    go_wp2_with fail
    go_ret
    exact ⟨ret_bool (by rfl), (by repeat' (first | (with_reducible exact Below.refl _ _) | (with_reducible assumption) | (with_reducible refine Below.drew ?_) | (with_reducible refine below_drewN ?_ _) | (with_reducible refine below_iterAt ?_ ?_ _ _) | (with_reducible refine below_iter ?_ ?_ _ _) | (with_reducible refine Below.alloc ?_ ?_ _) | (with_reducible refine Below.setCell ?_ ?_ _) | (with_reducible refine Below.trans ?_ (Below.mono (by assumption) ?_)) | (simp only [sz_alloc, sz_set, sz_drew, sz_drewN, sz_iterAt, sz_iter] at *; omega) | omega | (simp; done) | (simp; omega) | (apply Below.size; assumption) | (simp only [sz_drew, sz_drewN]; apply Below.size; assumption) | (refine Nat.le_trans ?_ (Below.size (by assumption)))))⟩
end Go.Proofs.YtogegempbjpdiaaDoor
