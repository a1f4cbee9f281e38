/- soffitlaw04.ValueApart: walked. -/
import Derived.Test.YthicilfhnakhmaaGreatDoorAp0
import Derived.Test.YthicilfhnakhmaaGreatDoorAw04
set_option linter.unusedSimpArgs false
set_option linter.unusedVariables false
namespace Go.Proofs.YthicilfhnakhmaaGreatDoor
open Go.RowKit Go.Sort Go.Lib

theorem apart_no (v : Vl) : ∃ (S : ByteArray) (r : Int), txtRes v = .tuple #[.string S, .int .i64 r] ∧ (sndB v = true → r = 0 ∧ S = ⟨(valL v).toArray⟩) ∧ (sndB v = false → r = 2) := by
  cases hs : sndB v
  · exact ⟨_, _, txtRes_no hs, (fun h => by cases h), fun _ => rfl⟩
  · exact ⟨_, _, txtRes_yes hs, fun _ => ⟨rfl, rfl⟩, (fun h => by cases h)⟩
theorem cmp_no (a b : Vl) : ∃ (n r : Int), cmpVRes a b = .tuple #[.int .i64 n, .int .i64 r] ∧ ((sndB a && sndB b) = true → r = 0 ∧ n = cmpV a b) ∧ ((sndB a && sndB b) = false → r = 2) := by
  cases hs : (sndB a && sndB b)
  · exact ⟨0, 2, by unfold cmpVRes; rw [hs]; rfl, (fun h => by cases h), fun _ => rfl⟩
  · exact ⟨_, 0, by unfold cmpVRes; rw [hs]; rfl, fun _ => ⟨rfl, rfl⟩, (fun h => by cases h)⟩

theorem cmpI_bd (x y : Int) : -1 ≤ cmpI x y ∧ cmpI x y ≤ 1 := by unfold cmpI; split; omega; split <;> omega
theorem cmpT_bd (x y : ByteArray) : -1 ≤ cmpT x y ∧ cmpT x y ≤ 1 := by unfold cmpT; split; omega; split <;> omega
theorem cmpV_bd (a b : Vl) : -1 ≤ cmpV a b ∧ cmpV a b ≤ 1 := by
  unfold cmpV
  split
  · split
    · exact cmpI_bd _ _
    · unfold orI; split
      · exact cmpI_bd _ _
      · exact cmpT_bd _ _
  · exact cmpI_bd _ _
set_option maxRecDepth 100000 in
set_option maxHeartbeats 6400000 in
theorem lawApart_any (a b c : Vl) (w : World) (ha : a.wf) (hb : b.wf) (hc : c.wf) (hE : EnvP w) :
    Calls Tryz.prog 5 #[.agg #[.int .i64 a.k, .int .i64 a.n, .int .i64 a.s, .string a.t, .int .i64 a.i], .agg #[.int .i64 b.k, .int .i64 b.n, .int .i64 b.s, .string b.t, .int .i64 b.i], .agg #[.int .i64 c.k, .int .i64 c.n, .int .i64 c.s, .string c.t, .int .i64 c.i]] w fun e w' => e = .returned (.bool true) ∧ Below w.heap.size w w' := by
  obtain ⟨X, e, hX, x1, x2⟩ := apart_no a
  obtain ⟨Y, f, hY, y1, y2⟩ := apart_no b
  obtain ⟨n, g, hN, n1, n2⟩ := cmp_no a b
  obtain ⟨m, h, hM, m1, m2⟩ := cmp_no b a
  obtain ⟨p, i, hP, p1, p2⟩ := cmp_no b c
  obtain ⟨q, j, hQ, q1, q2⟩ := cmp_no a c
  have key : (e ≠ 0) ∨ (e = 0 ∧ f ≠ 0) ∨ (e = 0 ∧ f = 0 ∧ i ≠ 0) ∨ (e = 0 ∧ f = 0 ∧ i = 0 ∧ g = 0 ∧ h = 0 ∧ j = 0 ∧ n = -m ∧ (n == 0) = eqB a b ∧ (X.toList == Y.toList) = eqB a b ∧ (-1 ≤ m ∧ m ≤ 1) ∧ (0 < n ∨ 0 < p ∨ q ≤ 0)) := by
    cases sa : sndB a
    · left; have := x2 sa; omega
    cases sb : sndB b
    · right; left; have := y2 sb; have := (x1 sa).1; exact ⟨by omega, by omega⟩
    cases sc : sndB c
    · right; right; left
      have h1 := p2 (by rw [sb, sc]; rfl)
      exact ⟨(x1 sa).1, (y1 sb).1, by omega⟩
    · right; right; right
      obtain ⟨g0, rfl⟩ := n1 (by rw [sa, sb]; rfl)
      obtain ⟨h0, rfl⟩ := m1 (by rw [sa, sb]; rfl)
      obtain ⟨i0, rfl⟩ := p1 (by rw [sb, sc]; rfl)
      obtain ⟨j0, rfl⟩ := q1 (by rw [sa, sc]; rfl)
      obtain ⟨e0, rfl⟩ := x1 sa
      obtain ⟨f0, rfl⟩ := y1 sb
      refine ⟨e0, f0, i0, g0, h0, j0, cmpV_anti a b, ?_, ?_, ?_, ?_⟩
      · rw [Bool.eq_iff_iff, eqB_iff, beq_iff_eq]; exact cmpV_zero sa sb
      · rw [Bool.eq_iff_iff, eqB_iff, beq_iff_eq]
        constructor
        · intro hh
          have e3 := toList_inj hh
          have := congrArg (fun z : ByteArray => z.data.toList) e3
          exact valL_inj sa sb (by simpa using this)
        · rintro rfl; rfl
      · exact cmpV_bd b a
      · rcases (by omega : 0 < cmpV a b ∨ ¬ 0 < cmpV a b) with h1 | h1
        · exact .inl h1
        · rcases (by omega : 0 < cmpV b c ∨ ¬ 0 < cmpV b c) with h2 | h2
          · exact .inr (.inl h2)
          · exact .inr (.inr (cmpV_tri a b c h1 h2))
  have HX := Lib.hid hX
  have HY := Lib.hid hY
  have HN := Lib.hid hN
  have HM := Lib.hid hM
  have HP := Lib.hid hP
  have HQ := Lib.hid hQ
  have HK := Lib.hid key
  clear hX hY hN hM hP hQ key x1 x2 y1 y2 n1 n2 m1 m2 p1 p2 q1 q2
  have heq := fun W : World => eqV_run a b W
  obtain ⟨E, hEq⟩ : ∃ E, eqB a b = E := ⟨_, rfl⟩
  rw [hEq] at HK heq
  clear hEq
  go_enter Tryz.func5, Tryz.ntmps5
  go_wp2_with fail
  refine (vText_any a _ ha (hE.below (by repeat' (first | (with_reducible exact Below.refl _ _) | (with_reducible assumption) | (with_reducible refine Below.drew ?_) | (with_reducible refine below_drewN ?_ _) | (with_reducible refine below_iterAt ?_ ?_ _ _) | (with_reducible refine below_iter ?_ ?_ _ _) | (with_reducible refine Below.alloc ?_ ?_ _) | (with_reducible refine Below.setCell ?_ ?_ _) | (with_reducible refine Below.trans ?_ (Below.mono (by assumption) ?_)) | (simp only [sz_alloc, sz_set, sz_drew, sz_drewN, sz_iterAt, sz_iter] at *; omega) | omega | (simp; done) | (simp; omega) | (apply Below.size; assumption) | (simp only [sz_drew, sz_drewN]; apply Below.size; assumption) | (refine Nat.le_trans ?_ (Below.size (by assumption))))))).mono ?_
  rintro e' w1 ⟨rfl, hb1⟩
  rw [HX.out]
  obtain ⟨hc1, hf1⟩ := bcell hb1
  have hz1 := hb1.size
  try simp at hz1
  have q1_0 := fun o => hc1 (w.heap.size) o (by first | omega | (simp only [sz_alloc, sz_set, sz_drew, sz_drewN, sz_iterAt, sz_iter] at *; omega) | (simp; done) | (simp; omega) | (simp at *; omega))
  have l1_0 : w.heap.size < w1.heap.size := by omega
  have r1_0 := fun o => hf1 (w.heap.size) o (by first | omega | (simp only [sz_alloc, sz_set, sz_drew, sz_drewN, sz_iterAt, sz_iter] at *; omega) | (simp; done) | (simp; omega) | (simp at *; omega))
  have q1_1 := fun o => hc1 (w.heap.size + 1) o (by first | omega | (simp only [sz_alloc, sz_set, sz_drew, sz_drewN, sz_iterAt, sz_iter] at *; omega) | (simp; done) | (simp; omega) | (simp at *; omega))
  have l1_1 : w.heap.size + 1 < w1.heap.size := by omega
  have r1_1 := fun o => hf1 (w.heap.size + 1) o (by first | omega | (simp only [sz_alloc, sz_set, sz_drew, sz_drewN, sz_iterAt, sz_iter] at *; omega) | (simp; done) | (simp; omega) | (simp at *; omega))
  have q1_2 := fun o => hc1 (w.heap.size + 2) o (by first | omega | (simp only [sz_alloc, sz_set, sz_drew, sz_drewN, sz_iterAt, sz_iter] at *; omega) | (simp; done) | (simp; omega) | (simp at *; omega))
  have l1_2 : w.heap.size + 2 < w1.heap.size := by omega
  have r1_2 := fun o => hf1 (w.heap.size + 2) o (by first | omega | (simp only [sz_alloc, sz_set, sz_drew, sz_drewN, sz_iterAt, sz_iter] at *; omega) | (simp; done) | (simp; omega) | (simp at *; omega))
  clear hc1 hf1
  go_wp2_with fail
  refine (vText_any b _ hb (hE.below (by repeat' (first | (with_reducible exact Below.refl _ _) | (with_reducible assumption) | (with_reducible refine Below.drew ?_) | (with_reducible refine below_drewN ?_ _) | (with_reducible refine below_iterAt ?_ ?_ _ _) | (with_reducible refine below_iter ?_ ?_ _ _) | (with_reducible refine Below.alloc ?_ ?_ _) | (with_reducible refine Below.setCell ?_ ?_ _) | (with_reducible refine Below.trans ?_ (Below.mono (by assumption) ?_)) | (simp only [sz_alloc, sz_set, sz_drew, sz_drewN, sz_iterAt, sz_iter] at *; omega) | omega | (simp; done) | (simp; omega) | (apply Below.size; assumption) | (simp only [sz_drew, sz_drewN]; apply Below.size; assumption) | (refine Nat.le_trans ?_ (Below.size (by assumption))))))).mono ?_
  rintro e' w2 ⟨rfl, hb2⟩
  rw [HY.out]
  obtain ⟨hc2, hf2⟩ := bcell hb2
  have hz2 := hb2.size
  try simp at hz2
  have q2_0 := fun o => hc2 (w.heap.size) o (by first | omega | (simp only [sz_alloc, sz_set, sz_drew, sz_drewN, sz_iterAt, sz_iter] at *; omega) | (simp; done) | (simp; omega) | (simp at *; omega))
  have l2_0 : w.heap.size < w2.heap.size := by omega
  have r2_0 := fun o => hf2 (w.heap.size) o (by first | omega | (simp only [sz_alloc, sz_set, sz_drew, sz_drewN, sz_iterAt, sz_iter] at *; omega) | (simp; done) | (simp; omega) | (simp at *; omega))
  have q2_1 := fun o => hc2 (w.heap.size + 1) o (by first | omega | (simp only [sz_alloc, sz_set, sz_drew, sz_drewN, sz_iterAt, sz_iter] at *; omega) | (simp; done) | (simp; omega) | (simp at *; omega))
  have l2_1 : w.heap.size + 1 < w2.heap.size := by omega
  have r2_1 := fun o => hf2 (w.heap.size + 1) o (by first | omega | (simp only [sz_alloc, sz_set, sz_drew, sz_drewN, sz_iterAt, sz_iter] at *; omega) | (simp; done) | (simp; omega) | (simp at *; omega))
  have q2_2 := fun o => hc2 (w.heap.size + 2) o (by first | omega | (simp only [sz_alloc, sz_set, sz_drew, sz_drewN, sz_iterAt, sz_iter] at *; omega) | (simp; done) | (simp; omega) | (simp at *; omega))
  have l2_2 : w.heap.size + 2 < w2.heap.size := by omega
  have r2_2 := fun o => hf2 (w.heap.size + 2) o (by first | omega | (simp only [sz_alloc, sz_set, sz_drew, sz_drewN, sz_iterAt, sz_iter] at *; omega) | (simp; done) | (simp; omega) | (simp at *; omega))
  clear hc2 hf2
  go_wp2_with fail
  refine (vCompare_any a b _ ha hb (hE.env.below (by repeat' (first | (with_reducible exact Below.refl _ _) | (with_reducible assumption) | (with_reducible refine Below.drew ?_) | (with_reducible refine below_drewN ?_ _) | (with_reducible refine below_iterAt ?_ ?_ _ _) | (with_reducible refine below_iter ?_ ?_ _ _) | (with_reducible refine Below.alloc ?_ ?_ _) | (with_reducible refine Below.setCell ?_ ?_ _) | (with_reducible refine Below.trans ?_ (Below.mono (by assumption) ?_)) | (simp only [sz_alloc, sz_set, sz_drew, sz_drewN, sz_iterAt, sz_iter] at *; omega) | omega | (simp; done) | (simp; omega) | (apply Below.size; assumption) | (simp only [sz_drew, sz_drewN]; apply Below.size; assumption) | (refine Nat.le_trans ?_ (Below.size (by assumption))))))).mono ?_
  rintro e' w3 ⟨rfl, hb3⟩
  rw [HN.out]
  obtain ⟨hc3, hf3⟩ := bcell hb3
  have hz3 := hb3.size
  try simp at hz3
  have q3_0 := fun o => hc3 (w.heap.size) o (by first | omega | (simp only [sz_alloc, sz_set, sz_drew, sz_drewN, sz_iterAt, sz_iter] at *; omega) | (simp; done) | (simp; omega) | (simp at *; omega))
  have l3_0 : w.heap.size < w3.heap.size := by omega
  have r3_0 := fun o => hf3 (w.heap.size) o (by first | omega | (simp only [sz_alloc, sz_set, sz_drew, sz_drewN, sz_iterAt, sz_iter] at *; omega) | (simp; done) | (simp; omega) | (simp at *; omega))
  have q3_1 := fun o => hc3 (w.heap.size + 1) o (by first | omega | (simp only [sz_alloc, sz_set, sz_drew, sz_drewN, sz_iterAt, sz_iter] at *; omega) | (simp; done) | (simp; omega) | (simp at *; omega))
  have l3_1 : w.heap.size + 1 < w3.heap.size := by omega
  have r3_1 := fun o => hf3 (w.heap.size + 1) o (by first | omega | (simp only [sz_alloc, sz_set, sz_drew, sz_drewN, sz_iterAt, sz_iter] at *; omega) | (simp; done) | (simp; omega) | (simp at *; omega))
  have q3_2 := fun o => hc3 (w.heap.size + 2) o (by first | omega | (simp only [sz_alloc, sz_set, sz_drew, sz_drewN, sz_iterAt, sz_iter] at *; omega) | (simp; done) | (simp; omega) | (simp at *; omega))
  have l3_2 : w.heap.size + 2 < w3.heap.size := by omega
  have r3_2 := fun o => hf3 (w.heap.size + 2) o (by first | omega | (simp only [sz_alloc, sz_set, sz_drew, sz_drewN, sz_iterAt, sz_iter] at *; omega) | (simp; done) | (simp; omega) | (simp at *; omega))
  clear hc3 hf3
  go_wp2_with fail
  refine (vCompare_any b a _ hb ha (hE.env.below (by repeat' (first | (with_reducible exact Below.refl _ _) | (with_reducible assumption) | (with_reducible refine Below.drew ?_) | (with_reducible refine below_drewN ?_ _) | (with_reducible refine below_iterAt ?_ ?_ _ _) | (with_reducible refine below_iter ?_ ?_ _ _) | (with_reducible refine Below.alloc ?_ ?_ _) | (with_reducible refine Below.setCell ?_ ?_ _) | (with_reducible refine Below.trans ?_ (Below.mono (by assumption) ?_)) | (simp only [sz_alloc, sz_set, sz_drew, sz_drewN, sz_iterAt, sz_iter] at *; omega) | omega | (simp; done) | (simp; omega) | (apply Below.size; assumption) | (simp only [sz_drew, sz_drewN]; apply Below.size; assumption) | (refine Nat.le_trans ?_ (Below.size (by assumption))))))).mono ?_
  rintro e' w4 ⟨rfl, hb4⟩
  rw [HM.out]
  obtain ⟨hc4, hf4⟩ := bcell hb4
  have hz4 := hb4.size
  try simp at hz4
  have q4_0 := fun o => hc4 (w.heap.size) o (by first | omega | (simp only [sz_alloc, sz_set, sz_drew, sz_drewN, sz_iterAt, sz_iter] at *; omega) | (simp; done) | (simp; omega) | (simp at *; omega))
  have l4_0 : w.heap.size < w4.heap.size := by omega
  have r4_0 := fun o => hf4 (w.heap.size) o (by first | omega | (simp only [sz_alloc, sz_set, sz_drew, sz_drewN, sz_iterAt, sz_iter] at *; omega) | (simp; done) | (simp; omega) | (simp at *; omega))
  have q4_1 := fun o => hc4 (w.heap.size + 1) o (by first | omega | (simp only [sz_alloc, sz_set, sz_drew, sz_drewN, sz_iterAt, sz_iter] at *; omega) | (simp; done) | (simp; omega) | (simp at *; omega))
  have l4_1 : w.heap.size + 1 < w4.heap.size := by omega
  have r4_1 := fun o => hf4 (w.heap.size + 1) o (by first | omega | (simp only [sz_alloc, sz_set, sz_drew, sz_drewN, sz_iterAt, sz_iter] at *; omega) | (simp; done) | (simp; omega) | (simp at *; omega))
  have q4_2 := fun o => hc4 (w.heap.size + 2) o (by first | omega | (simp only [sz_alloc, sz_set, sz_drew, sz_drewN, sz_iterAt, sz_iter] at *; omega) | (simp; done) | (simp; omega) | (simp at *; omega))
  have l4_2 : w.heap.size + 2 < w4.heap.size := by omega
  have r4_2 := fun o => hf4 (w.heap.size + 2) o (by first | omega | (simp only [sz_alloc, sz_set, sz_drew, sz_drewN, sz_iterAt, sz_iter] at *; omega) | (simp; done) | (simp; omega) | (simp at *; omega))
  clear hc4 hf4
  go_wp2_with fail
  refine (vCompare_any b c _ hb hc (hE.env.below (by repeat' (first | (with_reducible exact Below.refl _ _) | (with_reducible assumption) | (with_reducible refine Below.drew ?_) | (with_reducible refine below_drewN ?_ _) | (with_reducible refine below_iterAt ?_ ?_ _ _) | (with_reducible refine below_iter ?_ ?_ _ _) | (with_reducible refine Below.alloc ?_ ?_ _) | (with_reducible refine Below.setCell ?_ ?_ _) | (with_reducible refine Below.trans ?_ (Below.mono (by assumption) ?_)) | (simp only [sz_alloc, sz_set, sz_drew, sz_drewN, sz_iterAt, sz_iter] at *; omega) | omega | (simp; done) | (simp; omega) | (apply Below.size; assumption) | (simp only [sz_drew, sz_drewN]; apply Below.size; assumption) | (refine Nat.le_trans ?_ (Below.size (by assumption))))))).mono ?_
  rintro e' w5 ⟨rfl, hb5⟩
  rw [HP.out]
  obtain ⟨hc5, hf5⟩ := bcell hb5
  have hz5 := hb5.size
  try simp at hz5
  have q5_0 := fun o => hc5 (w.heap.size) o (by first | omega | (simp only [sz_alloc, sz_set, sz_drew, sz_drewN, sz_iterAt, sz_iter] at *; omega) | (simp; done) | (simp; omega) | (simp at *; omega))
  have l5_0 : w.heap.size < w5.heap.size := by omega
  have r5_0 := fun o => hf5 (w.heap.size) o (by first | omega | (simp only [sz_alloc, sz_set, sz_drew, sz_drewN, sz_iterAt, sz_iter] at *; omega) | (simp; done) | (simp; omega) | (simp at *; omega))
  have q5_1 := fun o => hc5 (w.heap.size + 1) o (by first | omega | (simp only [sz_alloc, sz_set, sz_drew, sz_drewN, sz_iterAt, sz_iter] at *; omega) | (simp; done) | (simp; omega) | (simp at *; omega))
  have l5_1 : w.heap.size + 1 < w5.heap.size := by omega
  have r5_1 := fun o => hf5 (w.heap.size + 1) o (by first | omega | (simp only [sz_alloc, sz_set, sz_drew, sz_drewN, sz_iterAt, sz_iter] at *; omega) | (simp; done) | (simp; omega) | (simp at *; omega))
  have q5_2 := fun o => hc5 (w.heap.size + 2) o (by first | omega | (simp only [sz_alloc, sz_set, sz_drew, sz_drewN, sz_iterAt, sz_iter] at *; omega) | (simp; done) | (simp; omega) | (simp at *; omega))
  have l5_2 : w.heap.size + 2 < w5.heap.size := by omega
  have r5_2 := fun o => hf5 (w.heap.size + 2) o (by first | omega | (simp only [sz_alloc, sz_set, sz_drew, sz_drewN, sz_iterAt, sz_iter] at *; omega) | (simp; done) | (simp; omega) | (simp at *; omega))
  clear hc5 hf5
  go_wp2_with fail
  refine (vCompare_any a c _ ha hc (hE.env.below (by repeat' (first | (with_reducible exact Below.refl _ _) | (with_reducible assumption) | (with_reducible refine Below.drew ?_) | (with_reducible refine below_drewN ?_ _) | (with_reducible refine below_iterAt ?_ ?_ _ _) | (with_reducible refine below_iter ?_ ?_ _ _) | (with_reducible refine Below.alloc ?_ ?_ _) | (with_reducible refine Below.setCell ?_ ?_ _) | (with_reducible refine Below.trans ?_ (Below.mono (by assumption) ?_)) | (simp only [sz_alloc, sz_set, sz_drew, sz_drewN, sz_iterAt, sz_iter] at *; omega) | omega | (simp; done) | (simp; omega) | (apply Below.size; assumption) | (simp only [sz_drew, sz_drewN]; apply Below.size; assumption) | (refine Nat.le_trans ?_ (Below.size (by assumption))))))).mono ?_
  rintro e' w6 ⟨rfl, hb6⟩
  rw [HQ.out]
  obtain ⟨hc6, hf6⟩ := bcell hb6
  have hz6 := hb6.size
  try simp at hz6
  have q6_0 := fun o => hc6 (w.heap.size) o (by first | omega | (simp only [sz_alloc, sz_set, sz_drew, sz_drewN, sz_iterAt, sz_iter] at *; omega) | (simp; done) | (simp; omega) | (simp at *; omega))
  have l6_0 : w.heap.size < w6.heap.size := by omega
  have r6_0 := fun o => hf6 (w.heap.size) o (by first | omega | (simp only [sz_alloc, sz_set, sz_drew, sz_drewN, sz_iterAt, sz_iter] at *; omega) | (simp; done) | (simp; omega) | (simp at *; omega))
  have q6_1 := fun o => hc6 (w.heap.size + 1) o (by first | omega | (simp only [sz_alloc, sz_set, sz_drew, sz_drewN, sz_iterAt, sz_iter] at *; omega) | (simp; done) | (simp; omega) | (simp at *; omega))
  have l6_1 : w.heap.size + 1 < w6.heap.size := by omega
  have r6_1 := fun o => hf6 (w.heap.size + 1) o (by first | omega | (simp only [sz_alloc, sz_set, sz_drew, sz_drewN, sz_iterAt, sz_iter] at *; omega) | (simp; done) | (simp; omega) | (simp at *; omega))
  have q6_2 := fun o => hc6 (w.heap.size + 2) o (by first | omega | (simp only [sz_alloc, sz_set, sz_drew, sz_drewN, sz_iterAt, sz_iter] at *; omega) | (simp; done) | (simp; omega) | (simp at *; omega))
  have l6_2 : w.heap.size + 2 < w6.heap.size := by omega
  have r6_2 := fun o => hf6 (w.heap.size + 2) o (by first | omega | (simp only [sz_alloc, sz_set, sz_drew, sz_drewN, sz_iterAt, sz_iter] at *; omega) | (simp; done) | (simp; omega) | (simp at *; omega))
  clear hc6 hf6
  go_wp2_with fail
  refine (awake04_any _ (hE.below (by repeat' (first | (with_reducible exact Below.refl _ _) | (with_reducible assumption) | (with_reducible refine Below.drew ?_) | (with_reducible refine below_drewN ?_ _) | (with_reducible refine below_iterAt ?_ ?_ _ _) | (with_reducible refine below_iter ?_ ?_ _ _) | (with_reducible refine Below.alloc ?_ ?_ _) | (with_reducible refine Below.setCell ?_ ?_ _) | (with_reducible refine Below.trans ?_ (Below.mono (by assumption) ?_)) | (simp only [sz_alloc, sz_set, sz_drew, sz_drewN, sz_iterAt, sz_iter] at *; omega) | omega | (simp; done) | (simp; omega) | (apply Below.size; assumption) | (simp only [sz_drew, sz_drewN]; apply Below.size; assumption) | (refine Nat.le_trans ?_ (Below.size (by assumption))))))).mono ?_
  rintro e' w7 ⟨rfl, hb7⟩
  obtain ⟨hc7, hf7⟩ := bcell hb7
  have hz7 := hb7.size
  try simp at hz7
  have q7_0 := fun o => hc7 (w.heap.size) o (by first | omega | (simp only [sz_alloc, sz_set, sz_drew, sz_drewN, sz_iterAt, sz_iter] at *; omega) | (simp; done) | (simp; omega) | (simp at *; omega))
  have l7_0 : w.heap.size < w7.heap.size := by omega
  have r7_0 := fun o => hf7 (w.heap.size) o (by first | omega | (simp only [sz_alloc, sz_set, sz_drew, sz_drewN, sz_iterAt, sz_iter] at *; omega) | (simp; done) | (simp; omega) | (simp at *; omega))
  have q7_1 := fun o => hc7 (w.heap.size + 1) o (by first | omega | (simp only [sz_alloc, sz_set, sz_drew, sz_drewN, sz_iterAt, sz_iter] at *; omega) | (simp; done) | (simp; omega) | (simp at *; omega))
  have l7_1 : w.heap.size + 1 < w7.heap.size := by omega
  have r7_1 := fun o => hf7 (w.heap.size + 1) o (by first | omega | (simp only [sz_alloc, sz_set, sz_drew, sz_drewN, sz_iterAt, sz_iter] at *; omega) | (simp; done) | (simp; omega) | (simp at *; omega))
  have q7_2 := fun o => hc7 (w.heap.size + 2) o (by first | omega | (simp only [sz_alloc, sz_set, sz_drew, sz_drewN, sz_iterAt, sz_iter] at *; omega) | (simp; done) | (simp; omega) | (simp at *; omega))
  have l7_2 : w.heap.size + 2 < w7.heap.size := by omega
  have r7_2 := fun o => hf7 (w.heap.size + 2) o (by first | omega | (simp only [sz_alloc, sz_set, sz_drew, sz_drewN, sz_iterAt, sz_iter] at *; omega) | (simp; done) | (simp; omega) | (simp at *; omega))
  clear hc7 hf7
  have hw7 : RowKit.Below w.heap.size w w7 := (by repeat' (first | (with_reducible exact Below.refl _ _) | (with_reducible assumption) | (with_reducible refine Below.drew ?_) | (with_reducible refine below_drewN ?_ _) | (with_reducible refine below_iterAt ?_ ?_ _ _) | (with_reducible refine below_iter ?_ ?_ _ _) | (with_reducible refine Below.alloc ?_ ?_ _) | (with_reducible refine Below.setCell ?_ ?_ _) | (with_reducible refine Below.trans ?_ (Below.mono (by assumption) ?_)) | (simp only [sz_alloc, sz_set, sz_drew, sz_drewN, sz_iterAt, sz_iter] at *; omega) | omega | (simp; done) | (simp; omega) | (apply Below.size; assumption) | (simp only [sz_drew, sz_drewN]; apply Below.size; assumption) | (refine Nat.le_trans ?_ (Below.size (by assumption)))))
  clear hb1 hb2 hb3 hb4 hb5 hb6 hb7 HX HY HN HM HP HQ
  rcases HK.out with k1 | ⟨k1, k2⟩ | ⟨k1, k2, k3⟩ | ⟨k1, k2, k3, k4, k5, k6, k7, k8, k9, k11, k10⟩
  · have e1 : (e != 0) = true := by rw [bne_iff_ne]; exact k1
    clear k1 HK heq
    go_wp2_with fail
    refine (awake04_any _ (hE.below (by repeat' (first | (with_reducible exact Below.refl _ _) | (with_reducible assumption) | (with_reducible refine Below.drew ?_) | (with_reducible refine below_drewN ?_ _) | (with_reducible refine below_iterAt ?_ ?_ _ _) | (with_reducible refine below_iter ?_ ?_ _ _) | (with_reducible refine Below.alloc ?_ ?_ _) | (with_reducible refine Below.setCell ?_ ?_ _) | (with_reducible refine Below.trans ?_ (Below.mono (by assumption) ?_)) | (simp only [sz_alloc, sz_set, sz_drew, sz_drewN, sz_iterAt, sz_iter] at *; omega) | omega | (simp; done) | (simp; omega) | (apply Below.size; assumption) | (simp only [sz_drew, sz_drewN]; apply Below.size; assumption) | (refine Nat.le_trans ?_ (Below.size (by assumption))))))).mono ?_
    rintro e' w8 ⟨rfl, hb8⟩
    go_wp2_with fail
    go_ret
    exact ⟨rfl, (by repeat' (first | (with_reducible exact Below.refl _ _) | (with_reducible assumption) | (with_reducible refine Below.drew ?_) | (with_reducible refine below_drewN ?_ _) | (with_reducible refine below_iterAt ?_ ?_ _ _) | (with_reducible refine below_iter ?_ ?_ _ _) | (with_reducible refine Below.alloc ?_ ?_ _) | (with_reducible refine Below.setCell ?_ ?_ _) | (with_reducible refine Below.trans ?_ (Below.mono (by assumption) ?_)) | (simp only [sz_alloc, sz_set, sz_drew, sz_drewN, sz_iterAt, sz_iter] at *; omega) | omega | (simp; done) | (simp; omega) | (apply Below.size; assumption) | (simp only [sz_drew, sz_drewN]; apply Below.size; assumption) | (refine Nat.le_trans ?_ (Below.size (by assumption)))))⟩
  · have e1 : (e != 0) = false := by rw [k1]; rfl
    have e2 : (f != 0) = true := by rw [bne_iff_ne]; exact k2
    clear k1 k2 HK heq
    go_wp2_with fail
    refine (awake04_any _ (hE.below (by repeat' (first | (with_reducible exact Below.refl _ _) | (with_reducible assumption) | (with_reducible refine Below.drew ?_) | (with_reducible refine below_drewN ?_ _) | (with_reducible refine below_iterAt ?_ ?_ _ _) | (with_reducible refine below_iter ?_ ?_ _ _) | (with_reducible refine Below.alloc ?_ ?_ _) | (with_reducible refine Below.setCell ?_ ?_ _) | (with_reducible refine Below.trans ?_ (Below.mono (by assumption) ?_)) | (simp only [sz_alloc, sz_set, sz_drew, sz_drewN, sz_iterAt, sz_iter] at *; omega) | omega | (simp; done) | (simp; omega) | (apply Below.size; assumption) | (simp only [sz_drew, sz_drewN]; apply Below.size; assumption) | (refine Nat.le_trans ?_ (Below.size (by assumption))))))).mono ?_
    rintro e' w8 ⟨rfl, hb8⟩
    go_wp2_with fail
    go_ret
    exact ⟨rfl, (by repeat' (first | (with_reducible exact Below.refl _ _) | (with_reducible assumption) | (with_reducible refine Below.drew ?_) | (with_reducible refine below_drewN ?_ _) | (with_reducible refine below_iterAt ?_ ?_ _ _) | (with_reducible refine below_iter ?_ ?_ _ _) | (with_reducible refine Below.alloc ?_ ?_ _) | (with_reducible refine Below.setCell ?_ ?_ _) | (with_reducible refine Below.trans ?_ (Below.mono (by assumption) ?_)) | (simp only [sz_alloc, sz_set, sz_drew, sz_drewN, sz_iterAt, sz_iter] at *; omega) | omega | (simp; done) | (simp; omega) | (apply Below.size; assumption) | (simp only [sz_drew, sz_drewN]; apply Below.size; assumption) | (refine Nat.le_trans ?_ (Below.size (by assumption)))))⟩
  · have e1 : (e != 0) = false := by rw [k1]; rfl
    have e2 : (f != 0) = false := by rw [k2]; rfl
    have e3 : (i != 0) = true := by rw [bne_iff_ne]; exact k3
    clear k1 k2 k3 HK heq
    go_wp2_with fail
    refine (awake04_any _ (hE.below (by repeat' (first | (with_reducible exact Below.refl _ _) | (with_reducible assumption) | (with_reducible refine Below.drew ?_) | (with_reducible refine below_drewN ?_ _) | (with_reducible refine below_iterAt ?_ ?_ _ _) | (with_reducible refine below_iter ?_ ?_ _ _) | (with_reducible refine Below.alloc ?_ ?_ _) | (with_reducible refine Below.setCell ?_ ?_ _) | (with_reducible refine Below.trans ?_ (Below.mono (by assumption) ?_)) | (simp only [sz_alloc, sz_set, sz_drew, sz_drewN, sz_iterAt, sz_iter] at *; omega) | omega | (simp; done) | (simp; omega) | (apply Below.size; assumption) | (simp only [sz_drew, sz_drewN]; apply Below.size; assumption) | (refine Nat.le_trans ?_ (Below.size (by assumption))))))).mono ?_
    rintro e' w8 ⟨rfl, hb8⟩
    go_wp2_with fail
    go_ret
    exact ⟨rfl, (by repeat' (first | (with_reducible exact Below.refl _ _) | (with_reducible assumption) | (with_reducible refine Below.drew ?_) | (with_reducible refine below_drewN ?_ _) | (with_reducible refine below_iterAt ?_ ?_ _ _) | (with_reducible refine below_iter ?_ ?_ _ _) | (with_reducible refine Below.alloc ?_ ?_ _) | (with_reducible refine Below.setCell ?_ ?_ _) | (with_reducible refine Below.trans ?_ (Below.mono (by assumption) ?_)) | (simp only [sz_alloc, sz_set, sz_drew, sz_drewN, sz_iterAt, sz_iter] at *; omega) | omega | (simp; done) | (simp; omega) | (apply Below.size; assumption) | (simp only [sz_drew, sz_drewN]; apply Below.size; assumption) | (refine Nat.le_trans ?_ (Below.size (by assumption)))))⟩
  · subst k1 k2 k3 k4 k5 k6
    have hwm : IntKind.i64.wrap (-m) = -m := IntWalk.i64_in _ (by omega)
    have hn1 : (n != -m) = false := by rw [bne_eq_false_iff_eq]; exact k7
    clear k7 k11 HK
    rcases k10 with h1 | h1 | h1
    · skip
      go_wp2_with fail
      all_goals go_ret
      all_goals exact ⟨ret_bool (by first | rfl | (simp; done) | (simp [h1]; done) | (simp [*]; done) | (simp; omega)), hw7⟩
    · by_cases h0 : 0 < n
      · skip
        go_wp2_with fail
        all_goals go_ret
        all_goals exact ⟨ret_bool (by first | rfl | (simp; done) | (simp [h0]; done) | (simp [*]; done) | (simp; omega)), hw7⟩
      · skip
        go_wp2_with fail
        all_goals go_ret
        all_goals exact ⟨ret_bool (by first | rfl | (simp; done) | (simp [h1]; done) | (simp [*]; done) | (simp; omega)), hw7⟩
    · by_cases h0 : 0 < n
      · skip
        go_wp2_with fail
        all_goals go_ret
        all_goals exact ⟨ret_bool (by first | rfl | (simp; done) | (simp [h0]; done) | (simp [*]; done) | (simp; omega)), hw7⟩
      · by_cases h2 : 0 < p
        · skip
          go_wp2_with fail
          all_goals go_ret
          all_goals exact ⟨ret_bool (by first | rfl | (simp; done) | (simp [h2]; done) | (simp [*]; done) | (simp; omega)), hw7⟩
        · skip
          go_wp2_with fail
          all_goals go_ret
          all_goals exact ⟨ret_bool (by first | rfl | (simp; done) | (simp [h1]; done) | (simp [*]; done) | (simp; omega)), hw7⟩
end Go.Proofs.YthicilfhnakhmaaGreatDoor
