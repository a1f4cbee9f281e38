import Derived.Test.YtankkadnhdfpfaaGreatDoorPk06
import Derived.Test.YtankkadnhdfpfaaGreatDoorPk05
import Derived.Test.YtankkadnhdfpfaaGreatDoorPk09
import Derived.Test.YtankkadnhdfpfaaGreatDoorPk13
import Derived.Test.YtankkadnhdfpfaaGreatDoorPk01
/- soffit/sets.Sound, units, within, In: walked. -/
set_option linter.unusedSimpArgs false
set_option linter.unusedVariables false
namespace Go.Proofs.YtankkadnhdfpfaaGreatDoor
open Go.RowKit

structure TyAt (w : World) (t : Ty) (A : Option Addr) : Prop where
  rd : RdL w 13 A (t.c.ts.map Tst.cells)
  ts : ∀ x ∈ t.c.ts, x.wf
  n : t.c.ts.length ≤ 9223372036854775807
theorem TyAt.below {w w' : World} {t : Ty} {A : Option Addr} (h : TyAt w t A) (hb : Below w.heap.size w w') : TyAt w' t A := ⟨h.rd.below hb, h.ts, h.n⟩

set_option maxRecDepth 100000 in
set_option maxHeartbeats 1600000 in
theorem setSound_any (t : Ty) (A : Option Addr) (c : Nat) (w : World) (hT : TyAt w t A) (hE : Env w) :
    Calls Tryz.prog 35 #[.agg #[.int .i64 t.k, .int .i64 t.sc, .bool t.c.any, .bool t.c.neg, .slice A t.c.ts.length c]] w fun e w' => e = .returned (.bool (tySnd t)) ∧ Below w.heap.size w w' := by
  obtain ⟨B, hB⟩ : ∃ B, tySnd t = B := ⟨_, rfl⟩
  rw [hB]
  unfold tySnd at hB
  have HT := Lib.hid hT
  clear hT
  have five : (t.k < 1) ∨ (¬ t.k < 1 ∧ 4 < t.k) ∨ (¬ t.k < 1 ∧ ¬ 4 < t.k ∧ t.sc < 0) ∨ (¬ t.k < 1 ∧ ¬ 4 < t.k ∧ ¬ t.sc < 0 ∧ 6 < t.sc) ∨ (¬ t.k < 1 ∧ ¬ 4 < t.k ∧ ¬ t.sc < 0 ∧ ¬ 6 < t.sc) := by omega
  rcases five with h1 | ⟨h1, h2⟩ | ⟨h1, h2, h3⟩ | ⟨h1, h2, h3, h4⟩ | ⟨h1, h2, h3, h4⟩
  · have HB : Hid (B = false) := by show B = _; rw [← hB, decide_eq_false (by omega)]; rfl
    clear hB
    go_enter Tryz.func35, Tryz.ntmps35
    go_wp2_with fail
    go_ret
    exact ⟨ret_bool (by rw [HB.out]), bel⟩
  · have HB : Hid (B = false) := by show B = _; rw [← hB, decide_eq_false (by omega)]; rfl
    clear hB
    go_enter Tryz.func35, Tryz.ntmps35
    go_wp2_with fail
    go_ret
    exact ⟨ret_bool (by rw [HB.out]), bel⟩
  · have HB : Hid (B = false) := by show B = _; rw [← hB, decide_eq_false (by omega)]; rfl
    clear hB
    go_enter Tryz.func35, Tryz.ntmps35
    go_wp2_with fail
    go_ret
    exact ⟨ret_bool (by rw [HB.out]), bel⟩
  · have HB : Hid (B = false) := by show B = _; rw [← hB, decide_eq_false (by omega)]; rfl
    clear hB
    go_enter Tryz.func35, Tryz.ntmps35
    go_wp2_with fail
    go_ret
    exact ⟨ret_bool (by rw [HB.out]), bel⟩
  · by_cases hk : t.k = 1
    · have HB : Hid (uSndB t.c = B) := by show _ = B; rw [← hB, decide_eq_true (by omega)]; rfl
      have e1 : (t.k == 1) = true := by simp [hk]
      clear hB hk
      go_enter Tryz.func35, Tryz.ntmps35
      go_wp2_with fail
      refine (uSound_any t.c A c _ (HT.out.rd.below bel) HT.out.ts HT.out.n (hE.below bel)).mono ?_
      rintro e w1 ⟨rfl, hb1⟩
      rw [HB.out]
      go_wp2_with fail
      go_ret
      exact ⟨ret_bool (by simp), bel⟩
    · have e1 : (t.k == 1) = false := by simp [hk]
      by_cases hs : t.sc = 0
      · have HB : Hid (uSndB t.c = B) := by show _ = B; rw [← hB, decide_eq_true (by omega)]; rfl
        have e2 : (t.sc == 0) = true := by simp [hs]
        clear hB hk hs
        go_enter Tryz.func35, Tryz.ntmps35
        go_wp2_with fail
        refine (uSound_any t.c A c _ (HT.out.rd.below bel) HT.out.ts HT.out.n (hE.below bel)).mono ?_
        rintro e w1 ⟨rfl, hb1⟩
        rw [HB.out]
        go_wp2_with fail
        go_ret
        exact ⟨ret_bool (by simp), bel⟩
      · have HB : Hid (B = false) := by show B = _; rw [← hB, decide_eq_false (by omega)]; rfl
        have e2 : (t.sc == 0) = false := by simp [hs]
        clear hB hk hs
        go_enter Tryz.func35, Tryz.ntmps35
        go_wp2_with fail
        go_ret
        exact ⟨ret_bool (by rw [HB.out]), bel⟩

set_option maxRecDepth 100000 in
set_option maxHeartbeats 1600000 in
theorem units_v (t : Ty) (v : Vl) (A : Option Addr) (c : Nat) (w : World) (hv : v.wf) (hs : 0 ≤ t.sc ∧ t.sc ≤ 6) (hd : v.k = 1 → decSnd v.n v.s = true) :
    Calls Tryz.prog 55 #[.agg #[.int .i64 t.k, .int .i64 t.sc, .bool t.c.any, .bool t.c.neg, .slice A t.c.ts.length c], .agg #[.int .i64 v.k, .int .i64 v.n, .int .i64 v.s, .string v.t, .int .i64 v.i]] w fun e w' => e = .returned (.int .i64 (unitsV t.sc v)) ∧ Below w.heap.size w w' := by
  obtain ⟨N, hN⟩ : ∃ N, unitsV t.sc v = N := ⟨_, rfl⟩
  rw [hN]
  unfold unitsV at hN
  by_cases hk : v.k = 1
  · rw [if_pos hk] at hN
    have HA := Lib.hid (atRes_yes hs (hd hk))
    rw [hN] at HA
    generalize atE v.n v.s t.sc = E at *
    have e1 : (v.k != 1) = false := by simp [hk]
    have I1 := hv.n
    have I2 := hv.s
    clear hN hk hd hs hv
    go_enter Tryz.func55, Tryz.ntmps55
    go_wp2_with fail
    refine (decAt_any v.n v.s t.sc _ I1 I2).mono ?_
    rintro e w1 ⟨rfl, hb1⟩
    rw [HA.out]
    go_wp2_with fail
    go_ret
    exact ⟨rfl, bel⟩
  · rw [if_neg hk] at hN
    have e1 : (v.k != 1) = true := by rw [bne_iff_ne]; exact hk
    have HN := Lib.hid hN
    clear hk hd hs hv hN
    go_enter Tryz.func55, Tryz.ntmps55
    go_wp2_with fail
    go_ret
    exact ⟨ret_int HN.out, bel⟩

def withB (t : Ty) (v : Vl) : Bool := fitB v t.k t.sc && (v.k != 1 || rngB (unitsV t.sc v))
set_option maxRecDepth 100000 in
set_option maxHeartbeats 1600000 in
theorem within_any (t : Ty) (v : Vl) (A : Option Addr) (c : Nat) (w : World) (hv : v.wf) (hs : 0 ≤ t.sc ∧ t.sc ≤ 6) (hE : Env w) :
    Calls Tryz.prog 56 #[.agg #[.int .i64 t.k, .int .i64 t.sc, .bool t.c.any, .bool t.c.neg, .slice A t.c.ts.length c], .agg #[.int .i64 v.k, .int .i64 v.n, .int .i64 v.s, .string v.t, .int .i64 v.i]] w fun e w' => e = .returned (.bool (withB t v)) ∧ Below w.heap.size w w' := by
  obtain ⟨B, hB⟩ : ∃ B, withB t v = B := ⟨_, rfl⟩
  rw [hB]
  unfold withB at hB
  have HV := Lib.hid hv
  cases hf : fitB v t.k t.sc
  · have HB : Hid (B = false) := by show B = _; rw [← hB, hf]; rfl
    have HF := Lib.hid hf
    clear hB hf
    go_enter Tryz.func56, Tryz.ntmps56
    go_wp2_with fail
    refine (vFits_any v t.k t.sc _ HV.out (hE.below bel)).mono ?_
    rintro e w1 ⟨rfl, hb1⟩
    rw [HF.out]
    go_wp2_with fail
    go_ret
    exact ⟨ret_bool HB.out.symm, bel⟩
  · have hd : v.k = 1 → decSnd v.n v.s = true := fun h => (sndOne (by unfold fitB at hf; rw [Bool.and_eq_true] at hf; exact hf.1) h).2.2
    have HD := Lib.hid hd
    have HF := Lib.hid hf
    obtain ⟨N, hN⟩ : ∃ N, unitsV t.sc v = N := ⟨_, rfl⟩
    rw [hf, hN, Bool.true_and] at hB
    have HN := Lib.hid hN
    have HS := Lib.hid hs
    unfold rngB at hB
    clear hf hd hN hs
    cases e1 : (v.k != 1)
    · by_cases g1 : -999999999999 ≤ N
      · by_cases g2 : N ≤ 999999999999
        all_goals
          have HB := Lib.hid hB
          clear hB
          go_enter Tryz.func56, Tryz.ntmps56
          go_wp2_with fail
          refine (vFits_any v t.k t.sc _ HV.out (hE.below bel)).mono ?_
          rintro e w1 ⟨rfl, hb1⟩
          rw [HF.out]
          have hz1 := hb1.size
          try simp at hz1
          obtain ⟨q1_0, l1_0, r1_0⟩ := aft hb1 (w.heap.size)
          obtain ⟨q1_1, l1_1, r1_1⟩ := aft hb1 (w.heap.size + 1)
          go_wp2_with fail
          refine (units_v t v A c _ HV.out HS.out HD.out).mono ?_
          rintro e w2 ⟨rfl, hb2⟩
          rw [HN.out]
          have hz2 := hb2.size
          try simp at hz2
          obtain ⟨q2_0, l2_0, r2_0⟩ := aft hb2 (w.heap.size)
          obtain ⟨q2_1, l2_1, r2_1⟩ := aft hb2 (w.heap.size + 1)
          go_wp2_with fail
          go_ret
          exact ⟨ret_bool (by rw [← HB.out, e1]; simp [g1, g2]; try omega), bel⟩
      · have HB := Lib.hid hB
        clear hB
        go_enter Tryz.func56, Tryz.ntmps56
        go_wp2_with fail
        refine (vFits_any v t.k t.sc _ HV.out (hE.below bel)).mono ?_
        rintro e w1 ⟨rfl, hb1⟩
        rw [HF.out]
        have hz1 := hb1.size
        try simp at hz1
        obtain ⟨q1_0, l1_0, r1_0⟩ := aft hb1 (w.heap.size)
        obtain ⟨q1_1, l1_1, r1_1⟩ := aft hb1 (w.heap.size + 1)
        go_wp2_with fail
        refine (units_v t v A c _ HV.out HS.out HD.out).mono ?_
        rintro e w2 ⟨rfl, hb2⟩
        rw [HN.out]
        have hz2 := hb2.size
        try simp at hz2
        obtain ⟨q2_0, l2_0, r2_0⟩ := aft hb2 (w.heap.size)
        obtain ⟨q2_1, l2_1, r2_1⟩ := aft hb2 (w.heap.size + 1)
        go_wp2_with fail
        go_ret
        exact ⟨ret_bool (by rw [← HB.out, e1]; simp [g1] <;> omega), bel⟩
    · have HB := Lib.hid hB
      clear hB
      go_enter Tryz.func56, Tryz.ntmps56
      go_wp2_with fail
      refine (vFits_any v t.k t.sc _ HV.out (hE.below bel)).mono ?_
      rintro e w1 ⟨rfl, hb1⟩
      rw [HF.out]
      have hz1 := hb1.size
      try simp at hz1
      obtain ⟨q1_0, l1_0, r1_0⟩ := aft hb1 (w.heap.size)
      obtain ⟨q1_1, l1_1, r1_1⟩ := aft hb1 (w.heap.size + 1)
      go_wp2_with fail
      refine (units_v t v A c _ HV.out HS.out HD.out).mono ?_
      rintro e w2 ⟨rfl, hb2⟩
      rw [HN.out]
      have hz2 := hb2.size
      try simp at hz2
      obtain ⟨q2_0, l2_0, r2_0⟩ := aft hb2 (w.heap.size)
      obtain ⟨q2_1, l2_1, r2_1⟩ := aft hb2 (w.heap.size + 1)
      go_wp2_with fail
      go_ret
      exact ⟨ret_bool (by rw [← HB.out, e1]; rfl), bel⟩

set_option maxRecDepth 100000 in
set_option maxHeartbeats 1600000 in
theorem setIn_any (t : Ty) (v : Vl) (A : Option Addr) (c : Nat) (w : World) (hT : TyAt w t A) (hv : v.wf) (hE : Env w) :
    Calls Tryz.prog 19 #[.agg #[.int .i64 t.k, .int .i64 t.sc, .bool t.c.any, .bool t.c.neg, .slice A t.c.ts.length c], .agg #[.int .i64 v.k, .int .i64 v.n, .int .i64 v.s, .string v.t, .int .i64 v.i]] w fun e w' => e = .returned (.bool (inTy t v)) ∧ Below w.heap.size w w' := by
  obtain ⟨B, hB⟩ : ∃ B, inTy t v = B := ⟨_, rfl⟩
  rw [hB]
  have HT := Lib.hid hT
  have HV := Lib.hid hv
  clear hT hv
  cases hs : tySnd t
  · have HB : Hid (B = false) := by show B = _; rw [← hB]; unfold inTy; rw [hs]; rfl
    have HS := Lib.hid hs
    clear hB hs
    go_enter Tryz.func19, Tryz.ntmps19
    go_wp2_with fail
    refine (setSound_any t A c _ (HT.out.below bel) (hE.below bel)).mono ?_
    rintro e w1 ⟨rfl, hb1⟩
    rw [HS.out]
    go_wp2_with fail
    go_ret
    exact ⟨ret_bool HB.out.symm, bel⟩
  · have hsc := (ty_of hs).2.1
    have hus := (ty_of hs).2.2.2
    have hfe := fit_eq hsc v
    have HS := Lib.hid hs
    have HSC := Lib.hid hsc
    cases hf : withB t v
    · have HB : Hid (B = false) := by show B = _; rw [← hB]; unfold inTy; rw [hfe, show (fitB v t.k t.sc && (v.k != 1 || rngB (unitsV t.sc v))) = false from hf, hs]; rfl
      have HF := Lib.hid hf
      clear hB hs hsc hus hfe hf
      go_enter Tryz.func19, Tryz.ntmps19
      go_wp2_with fail
      refine (setSound_any t A c _ (HT.out.below bel) (hE.below bel)).mono ?_
      rintro e w1 ⟨rfl, hb1⟩
      rw [HS.out]
      have hz1 := hb1.size
      try simp at hz1
      obtain ⟨q1_0, l1_0, r1_0⟩ := aft hb1 (w.heap.size)
      obtain ⟨q1_1, l1_1, r1_1⟩ := aft hb1 (w.heap.size + 1)
      go_wp2_with fail
      refine (within_any t v A c _ HV.out HSC.out (hE.below bel)).mono ?_
      rintro e w2 ⟨rfl, hb2⟩
      rw [HF.out]
      go_wp2_with fail
      go_ret
      exact ⟨ret_bool HB.out.symm, bel⟩
    · have hsv : sndB v = true := by
        have h := hf
        unfold withB fitB at h
        rw [Bool.and_eq_true, Bool.and_eq_true] at h
        exact h.1.1
      have HB : Hid (B = (v.k == 0 || allB t.c v)) := by show B = _; rw [← hB]; unfold inTy; rw [hfe, show (fitB v t.k t.sc && (v.k != 1 || rngB (unitsV t.sc v))) = true from hf, hs]; rfl
      have HR : Hid (allRes t.c v = .tuple #[.bool (allB t.c v), .int .i64 0]) := by show _ = _; unfold allRes; rw [hus, hsv]; rfl
      have HF := Lib.hid hf
      generalize allB t.c v = L at *
      clear hB hs hsc hus hfe hf hsv
      cases e0 : (v.k == 0) <;> cases L
      all_goals
        go_enter Tryz.func19, Tryz.ntmps19
        go_wp2_with fail
        refine (setSound_any t A c _ (HT.out.below bel) (hE.below bel)).mono ?_
        rintro e w1 ⟨rfl, hb1⟩
        rw [HS.out]
        have hz1 := hb1.size
        try simp at hz1
        obtain ⟨q1_0, l1_0, r1_0⟩ := aft hb1 (w.heap.size)
        obtain ⟨q1_1, l1_1, r1_1⟩ := aft hb1 (w.heap.size + 1)
        go_wp2_with fail
        refine (within_any t v A c _ HV.out HSC.out (hE.below bel)).mono ?_
        rintro e w2 ⟨rfl, hb2⟩
        rw [HF.out]
        have hz2 := hb2.size
        try simp at hz2
        obtain ⟨q2_0, l2_0, r2_0⟩ := aft hb2 (w.heap.size)
        obtain ⟨q2_1, l2_1, r2_1⟩ := aft hb2 (w.heap.size + 1)
        go_wp2_with fail
        refine (mAll_any t.c v A c _ (HT.out.rd.below bel) HT.out.ts HV.out HT.out.n (hE.below bel)).mono ?_
        rintro e w3 ⟨rfl, hb3⟩
        rw [HR.out]
        have hz3 := hb3.size
        try simp at hz3
        obtain ⟨q3_0, l3_0, r3_0⟩ := aft hb3 (w.heap.size)
        obtain ⟨q3_1, l3_1, r3_1⟩ := aft hb3 (w.heap.size + 1)
        go_wp2_with fail
        go_ret
        exact ⟨ret_bool (by rw [HB.out, e0]; rfl), bel⟩
end Go.Proofs.YtankkadnhdfpfaaGreatDoor

/- soffit/sets.extent, floor, between: walked. -/
set_option linter.unusedSimpArgs false
set_option linter.unusedVariables false
namespace Go.Proofs.YtankkadnhdfpfaaGreatDoor
open Go.RowKit

set_option maxHeartbeats 800000 in
theorem extent_any (t : Ty) (A : Option Addr) (c : Nat) (w : World) :
    Calls Tryz.prog 118 #[.agg #[.int .i64 t.k, .int .i64 t.sc, .bool t.c.any, .bool t.c.neg, .slice A t.c.ts.length c]] w fun e w' => e = .returned (.agg #[.int .i64 (lowK t.k), .int .i64 (topK t.k)]) ∧ Below w.heap.size w w' := by
  by_cases hk : t.k = 4
  · have e1 : (t.k == 4) = true := by simp [hk]
    rw [show lowK t.k = 0 from if_pos hk, show topK t.k = 3652058 from if_pos hk]
    clear hk
    go_enter Tryz.func118, Tryz.ntmps118
    go_wp2_with fail
    refine bodyPost_ret (v := .agg #[.int .i64 0, .int .i64 3652058]) (by simp [results, Tryz.results118, go_sem, *]) rfl ⟨rfl, bel⟩
  · have e1 : (t.k == 4) = false := by simp [hk]
    rw [show lowK t.k = -999999999999 from if_neg hk, show topK t.k = 999999999999 from if_neg hk]
    clear hk
    go_enter Tryz.func118, Tryz.ntmps118
    go_wp2_with fail
    refine bodyPost_ret (v := .agg #[.int .i64 (-999999999999), .int .i64 999999999999]) (by simp [results, Tryz.results118, go_sem, *]) rfl ⟨rfl, bel⟩

structure EndV (t : Ty) (v : Vl) : Prop where
  wf : v.wf
  snd : sndB v = true
  k : v.k = t.k
  sc : 0 ≤ t.sc ∧ t.sc ≤ 6
  n : numK t.k = true
theorem floor_bd {t : Ty} {v : Vl} (h : EndV t v) : -1000000000000000000 ≤ floorV t.sc v ∧ floorV t.sc v ≤ 1000000000000000000 := by
  have h14 : t.k = 1 ∨ t.k = 4 := by simpa [numK] using h.n
  have hk := h.k
  unfold floorV
  rcases h14 with h1 | h1
  · rw [if_neg (by omega)]
    obtain ⟨a1, a2, a3, a4, -⟩ := decSnd_of (sndOne h.snd (by omega)).2.2
    exact at_bd a3 a4 a1 a2
  · rw [if_pos (by omega)]
    obtain ⟨i1, i2⟩ := sndFourI h.snd (by omega)
    omega

set_option maxHeartbeats 800000 in
theorem floor_any (t : Ty) (v : Vl) (A : Option Addr) (c : Nat) (w : World) (hv : EndV t v) :
    Calls Tryz.prog 154 #[.agg #[.int .i64 t.k, .int .i64 t.sc, .bool t.c.any, .bool t.c.neg, .slice A t.c.ts.length c], .agg #[.int .i64 v.k, .int .i64 v.n, .int .i64 v.s, .string v.t, .int .i64 v.i]] w fun e w' => e = .returned (.tuple #[.int .i64 (floorV t.sc v), .bool (exactV t.sc v)]) ∧ Below w.heap.size w w' := by
  have h14 : t.k = 1 ∨ t.k = 4 := by simpa [numK] using hv.n
  have hk := hv.k
  unfold floorV exactV
  rcases h14 with h1 | h1
  · have e1 : (v.k == 4) = false := by simp; omega
    rw [if_neg (by omega), if_neg (by omega)]
    have HA := Lib.hid (atRes_yes hv.sc (sndOne hv.snd (by omega)).2.2)
    have I1 := hv.wf.n
    have I2 := hv.wf.s
    generalize atI v.n v.s t.sc = N at *
    generalize atE v.n v.s t.sc = E at *
    clear hv hk h1
    go_enter Tryz.func154, Tryz.ntmps154
    go_wp2_with fail
    refine (decAt_any v.n v.s t.sc _ I1 I2).mono ?_
    rintro e w1 ⟨rfl, hb1⟩
    rw [HA.out]
    go_wp2_with fail
    go_ret2
    exact ⟨rfl, bel⟩
  · have e1 : (v.k == 4) = true := by simp; omega
    rw [if_pos (by omega), if_pos (by omega)]
    clear hv hk h1
    go_enter Tryz.func154, Tryz.ntmps154
    go_wp2_with fail
    go_ret2
    exact ⟨rfl, bel⟩

set_option maxRecDepth 100000 in
set_option maxHeartbeats 6400000 in
theorem betw1_any (t : Ty) (x : Tst) (A : Option Addr) (c : Nat) (w : World) (hx : EndV t x.lo) (hk : 1 ≤ x.k ∧ x.k ≤ 5) :
    Calls Tryz.prog 119 #[.agg #[.int .i64 t.k, .int .i64 t.sc, .bool t.c.any, .bool t.c.neg, .slice A t.c.ts.length c], .agg #[.int .i64 x.k, .int .i64 x.lo.k, .int .i64 x.lo.n, .int .i64 x.lo.s, .string x.lo.t, .int .i64 x.lo.i, .int .i64 x.hi.k, .int .i64 x.hi.n, .int .i64 x.hi.s, .string x.hi.t, .int .i64 x.hi.i, .bool x.ol, .bool x.oh]] w fun e w' => e = .returned (.agg #[.int .i64 (betwLo t x), .int .i64 (betwHi t x)]) ∧ Below w.heap.size w w' := by
  obtain ⟨L, hL⟩ : ∃ L, betwLo t x = L := ⟨_, rfl⟩
  obtain ⟨H, hH⟩ : ∃ H, betwHi t x = H := ⟨_, rfl⟩
  rw [hL, hH]
  unfold betwLo at hL
  unfold betwHi at hH
  unfold leastV mostV at *
  unfold belowV at *
  have HX := Lib.hid hx
  have hbd := floor_bd hx
  have HF := Lib.hid (fun W => floor_any t x.lo A c W hx)
  generalize floorV t.sc x.lo = n at *
  have w1 : IntKind.i64.wrap (n + 1) = n + 1 := IntWalk.i64_in _ (by omega)
  have w2 : IntKind.i64.wrap (n - 1) = n - 1 := IntWalk.i64_in _ (by omega)
  have e6 : (x.k == 6) = false := by simp; omega
  have five : x.k = 1 ∨ x.k = 2 ∨ x.k = 3 ∨ x.k = 4 ∨ x.k = 5 := by omega
  clear hx
  cases hE : exactV t.sc x.lo
  all_goals
    rw [hE] at hL hH HF
    clear hE
    simp only [Bool.false_eq_true, if_false, if_true] at hL hH
    rcases five with h | h | h | h | h
    · rw [h] at hL hH
      simp only [reduceIte, Int.reduceEq] at hL hH
      have HL := Lib.hid hL
      have HH := Lib.hid hH
      have f1 : (x.k == 1) = true := by simp [h]
      clear hL hH h hk hbd
      go_enter Tryz.func119, Tryz.ntmps119
      go_wp2_with fail
      refine (extent_any t A c _).mono ?_
      rintro e w1 ⟨rfl, hb1⟩
      have hz1 := hb1.size
      try simp at hz1
      obtain ⟨q1_0, l1_0, r1_0⟩ := aft hb1 (w.heap.size)
      obtain ⟨q1_1, l1_1, r1_1⟩ := aft hb1 (w.heap.size + 1)
      obtain ⟨q1_2, l1_2, r1_2⟩ := aft hb1 (w.heap.size + 2)
      go_wp2_with fail
      refine (HF.out _).mono ?_
      rintro e w2 ⟨rfl, hb2⟩
      have hz2 := hb2.size
      try simp at hz2
      obtain ⟨q2_0, l2_0, r2_0⟩ := aft hb2 (w.heap.size)
      obtain ⟨q2_1, l2_1, r2_1⟩ := aft hb2 (w.heap.size + 1)
      obtain ⟨q2_2, l2_2, r2_2⟩ := aft hb2 (w.heap.size + 2)
      obtain ⟨q2_3, l2_3, r2_3⟩ := aft hb2 (w1.heap.size)
      go_wp2_with fail
      refine bodyPost_ret (v := .agg #[.int .i64 L, .int .i64 H]) ?_ rfl ⟨rfl, bel⟩
      rw [← HL.out, ← HH.out]
      simp [results, Tryz.results119, go_sem, *]
    · rw [h] at hL hH
      simp only [reduceIte, Int.reduceEq] at hL hH
      have HL := Lib.hid hL
      have HH := Lib.hid hH
      have f1 : (x.k == 1) = false := by simp [h]
      have f2 : (x.k == 2) = true := by simp [h]
      clear hL hH h hk hbd
      go_enter Tryz.func119, Tryz.ntmps119
      go_wp2_with fail
      refine (extent_any t A c _).mono ?_
      rintro e w1 ⟨rfl, hb1⟩
      have hz1 := hb1.size
      try simp at hz1
      obtain ⟨q1_0, l1_0, r1_0⟩ := aft hb1 (w.heap.size)
      obtain ⟨q1_1, l1_1, r1_1⟩ := aft hb1 (w.heap.size + 1)
      obtain ⟨q1_2, l1_2, r1_2⟩ := aft hb1 (w.heap.size + 2)
      go_wp2_with fail
      refine (HF.out _).mono ?_
      rintro e w2 ⟨rfl, hb2⟩
      have hz2 := hb2.size
      try simp at hz2
      obtain ⟨q2_0, l2_0, r2_0⟩ := aft hb2 (w.heap.size)
      obtain ⟨q2_1, l2_1, r2_1⟩ := aft hb2 (w.heap.size + 1)
      obtain ⟨q2_2, l2_2, r2_2⟩ := aft hb2 (w.heap.size + 2)
      obtain ⟨q2_3, l2_3, r2_3⟩ := aft hb2 (w1.heap.size)
      go_wp2_with fail
      refine bodyPost_ret (v := .agg #[.int .i64 L, .int .i64 H]) ?_ rfl ⟨rfl, bel⟩
      rw [← HL.out, ← HH.out]
      simp [results, Tryz.results119, go_sem, *]
    · rw [h] at hL hH
      simp only [reduceIte, Int.reduceEq] at hL hH
      have HL := Lib.hid hL
      have HH := Lib.hid hH
      have f1 : (x.k == 1) = false := by simp [h]
      have f2 : (x.k == 2) = false := by simp [h]
      have f3 : (x.k == 3) = true := by simp [h]
      clear hL hH h hk hbd
      go_enter Tryz.func119, Tryz.ntmps119
      go_wp2_with fail
      refine (extent_any t A c _).mono ?_
      rintro e w1 ⟨rfl, hb1⟩
      have hz1 := hb1.size
      try simp at hz1
      obtain ⟨q1_0, l1_0, r1_0⟩ := aft hb1 (w.heap.size)
      obtain ⟨q1_1, l1_1, r1_1⟩ := aft hb1 (w.heap.size + 1)
      obtain ⟨q1_2, l1_2, r1_2⟩ := aft hb1 (w.heap.size + 2)
      go_wp2_with fail
      refine (HF.out _).mono ?_
      rintro e w2 ⟨rfl, hb2⟩
      have hz2 := hb2.size
      try simp at hz2
      obtain ⟨q2_0, l2_0, r2_0⟩ := aft hb2 (w.heap.size)
      obtain ⟨q2_1, l2_1, r2_1⟩ := aft hb2 (w.heap.size + 1)
      obtain ⟨q2_2, l2_2, r2_2⟩ := aft hb2 (w.heap.size + 2)
      obtain ⟨q2_3, l2_3, r2_3⟩ := aft hb2 (w1.heap.size)
      go_wp2_with fail
      refine bodyPost_ret (v := .agg #[.int .i64 L, .int .i64 H]) ?_ rfl ⟨rfl, bel⟩
      rw [← HL.out, ← HH.out]
      simp [results, Tryz.results119, go_sem, *]
    · rw [h] at hL hH
      simp only [reduceIte, Int.reduceEq] at hL hH
      have HL := Lib.hid hL
      have HH := Lib.hid hH
      have f1 : (x.k == 1) = false := by simp [h]
      have f2 : (x.k == 2) = false := by simp [h]
      have f3 : (x.k == 3) = false := by simp [h]
      have f4 : (x.k == 4) = true := by simp [h]
      clear hL hH h hk hbd
      go_enter Tryz.func119, Tryz.ntmps119
      go_wp2_with fail
      refine (extent_any t A c _).mono ?_
      rintro e w1 ⟨rfl, hb1⟩
      have hz1 := hb1.size
      try simp at hz1
      obtain ⟨q1_0, l1_0, r1_0⟩ := aft hb1 (w.heap.size)
      obtain ⟨q1_1, l1_1, r1_1⟩ := aft hb1 (w.heap.size + 1)
      obtain ⟨q1_2, l1_2, r1_2⟩ := aft hb1 (w.heap.size + 2)
      go_wp2_with fail
      refine (HF.out _).mono ?_
      rintro e w2 ⟨rfl, hb2⟩
      have hz2 := hb2.size
      try simp at hz2
      obtain ⟨q2_0, l2_0, r2_0⟩ := aft hb2 (w.heap.size)
      obtain ⟨q2_1, l2_1, r2_1⟩ := aft hb2 (w.heap.size + 1)
      obtain ⟨q2_2, l2_2, r2_2⟩ := aft hb2 (w.heap.size + 2)
      obtain ⟨q2_3, l2_3, r2_3⟩ := aft hb2 (w1.heap.size)
      go_wp2_with fail
      refine bodyPost_ret (v := .agg #[.int .i64 L, .int .i64 H]) ?_ rfl ⟨rfl, bel⟩
      rw [← HL.out, ← HH.out]
      simp [results, Tryz.results119, go_sem, *]
    · rw [h] at hL hH
      simp only [reduceIte, Int.reduceEq] at hL hH
      have HL := Lib.hid hL
      have HH := Lib.hid hH
      have f1 : (x.k == 1) = false := by simp [h]
      have f2 : (x.k == 2) = false := by simp [h]
      have f3 : (x.k == 3) = false := by simp [h]
      have f4 : (x.k == 4) = false := by simp [h]
      have f5 : (x.k == 5) = true := by simp [h]
      clear hL hH h hk hbd
      go_enter Tryz.func119, Tryz.ntmps119
      go_wp2_with fail
      refine (extent_any t A c _).mono ?_
      rintro e w1 ⟨rfl, hb1⟩
      have hz1 := hb1.size
      try simp at hz1
      obtain ⟨q1_0, l1_0, r1_0⟩ := aft hb1 (w.heap.size)
      obtain ⟨q1_1, l1_1, r1_1⟩ := aft hb1 (w.heap.size + 1)
      obtain ⟨q1_2, l1_2, r1_2⟩ := aft hb1 (w.heap.size + 2)
      go_wp2_with fail
      refine (HF.out _).mono ?_
      rintro e w2 ⟨rfl, hb2⟩
      have hz2 := hb2.size
      try simp at hz2
      obtain ⟨q2_0, l2_0, r2_0⟩ := aft hb2 (w.heap.size)
      obtain ⟨q2_1, l2_1, r2_1⟩ := aft hb2 (w.heap.size + 1)
      obtain ⟨q2_2, l2_2, r2_2⟩ := aft hb2 (w.heap.size + 2)
      obtain ⟨q2_3, l2_3, r2_3⟩ := aft hb2 (w1.heap.size)
      go_wp2_with fail
      refine bodyPost_ret (v := .agg #[.int .i64 L, .int .i64 H]) ?_ rfl ⟨rfl, bel⟩
      rw [← HL.out, ← HH.out]
      simp [results, Tryz.results119, go_sem, *]
end Go.Proofs.YtankkadnhdfpfaaGreatDoor

/- soffit/sets.between at each kind: walked. -/
set_option linter.unusedSimpArgs false
set_option linter.unusedVariables false
namespace Go.Proofs.YtankkadnhdfpfaaGreatDoor
open Go.RowKit Sp

set_option maxRecDepth 100000 in
set_option maxHeartbeats 6400000 in
theorem betw6_any (t : Ty) (x : Tst) (A : Option Addr) (c : Nat) (w : World) (hx : EndV t x.lo) (hy : EndV t x.hi) (hk : x.k = 6) :
    Calls Tryz.prog 119 #[.agg #[.int .i64 t.k, .int .i64 t.sc, .bool t.c.any, .bool t.c.neg, .slice A t.c.ts.length c], .agg #[.int .i64 x.k, .int .i64 x.lo.k, .int .i64 x.lo.n, .int .i64 x.lo.s, .string x.lo.t, .int .i64 x.lo.i, .int .i64 x.hi.k, .int .i64 x.hi.n, .int .i64 x.hi.s, .string x.hi.t, .int .i64 x.hi.i, .bool x.ol, .bool x.oh]] w fun e w' => e = .returned (.agg #[.int .i64 (betwLo t x), .int .i64 (betwHi t x)]) ∧ Below w.heap.size w w' := by
  obtain ⟨L, hL⟩ : ∃ L, betwLo t x = L := ⟨_, rfl⟩
  obtain ⟨H, hH⟩ : ∃ H, betwHi t x = H := ⟨_, rfl⟩
  rw [hL, hH]
  unfold betwLo at hL
  unfold betwHi at hH
  rw [hk] at hL hH
  simp only [reduceIte, Int.reduceEq] at hL hH
  have HB : Hid (∀ W, Calls Tryz.prog 119 #[.agg #[.int .i64 t.k, .int .i64 t.sc, .bool t.c.any, .bool t.c.neg, .slice A t.c.ts.length c], .agg #[.int .i64 (if x.oh = true then 2 else 3), .int .i64 x.hi.k, .int .i64 x.hi.n, .int .i64 x.hi.s, .string x.hi.t, .int .i64 x.hi.i, .int .i64 0, .int .i64 0, .int .i64 0, .string ⟨#[]⟩, .int .i64 0, .bool false, .bool false]] W fun e w' => e = .returned (.agg #[.int .i64 (lowK t.k), .int .i64 H]) ∧ Below W.heap.size W w') := Lib.hid (fun W => by
    rw [← hH]
    cases x.oh
    · exact betw1_any t ⟨3, x.hi, Vl.zero, false, false⟩ A c W hy ⟨by show (1 : Int) ≤ 3; omega, by show (3 : Int) ≤ 5; omega⟩
    · exact betw1_any t ⟨2, x.hi, Vl.zero, false, false⟩ A c W hy ⟨by show (1 : Int) ≤ 2; omega, by show (2 : Int) ≤ 5; omega⟩)
  have hbd := floor_bd hx
  have HF := Lib.hid (fun W => floor_any t x.lo A c W hx)
  unfold leastV at hL
  generalize floorV t.sc x.lo = n at *
  have w1 : IntKind.i64.wrap (n + 1) = n + 1 := IntWalk.i64_in _ (by omega)
  have w2 : IntKind.i64.wrap (n - 1) = n - 1 := IntWalk.i64_in _ (by omega)
  have e6 : (x.k == 6) = true := by simp; omega
  have e1 : (x.k == 1) = false := by simp; omega
  have e2 : (x.k == 2) = false := by simp; omega
  have e3 : (x.k == 3) = false := by simp; omega
  have e4 : (x.k == 4) = false := by simp; omega
  have e5 : (x.k == 5) = false := by simp; omega
  clear hx hy hk hbd hH
  have hfd : ∀ W : World, (Instr.field 86 (.agg #[.int .i64 (lowK t.k), .int .i64 H]) 1).run Tryz.prog W = .ok (.int .i64 H) W := fun _ => by kernel_rfl
  cases hE : exactV t.sc x.lo <;> cases hol : x.ol <;> cases hoh : x.oh
  all_goals
    rw [hE] at hL HF
    rw [hol] at hL
    rw [hoh] at HB
    clear hE hol hoh
    simp only [Bool.false_eq_true, if_false, if_true] at hL HB
    have HL := Lib.hid hL
    clear hL
    go_enter Tryz.func119, Tryz.ntmps119
    go_wp2_with fail
    refine (extent_any t A c _).mono ?_
    rintro e w1 ⟨rfl, hb1⟩
    have hz1 := hb1.size
    try simp at hz1
    obtain ⟨q1_0, l1_0, r1_0⟩ := aft hb1 (w.heap.size)
    obtain ⟨q1_1, l1_1, r1_1⟩ := aft hb1 (w.heap.size + 1)
    obtain ⟨q1_2, l1_2, r1_2⟩ := aft hb1 (w.heap.size + 2)
    go_wp2_with fail
    refine (HF.out _).mono ?_
    rintro e w2 ⟨rfl, hb2⟩
    have hz2 := hb2.size
    try simp at hz2
    obtain ⟨q2_0, l2_0, r2_0⟩ := aft hb2 (w.heap.size)
    obtain ⟨q2_1, l2_1, r2_1⟩ := aft hb2 (w.heap.size + 1)
    obtain ⟨q2_2, l2_2, r2_2⟩ := aft hb2 (w.heap.size + 2)
    obtain ⟨q2_3, l2_3, r2_3⟩ := aft hb2 (w1.heap.size)
    go_wp2_with fail
    refine (HB.out _).mono ?_
    rintro e w3 ⟨rfl, hb3⟩
    have hz3 := hb3.size
    try simp at hz3
    obtain ⟨q3_0, l3_0, r3_0⟩ := aft hb3 (w.heap.size)
    obtain ⟨q3_1, l3_1, r3_1⟩ := aft hb3 (w.heap.size + 1)
    obtain ⟨q3_2, l3_2, r3_2⟩ := aft hb3 (w.heap.size + 2)
    obtain ⟨q3_3, l3_3, r3_3⟩ := aft hb3 (w2.heap.size)
    have y0 : w3.cell? ⟨w.heap.size + 1 + 1, 0, none⟩ = some (.int .i64 0) := (by first | (simp [go_sem]; done) | (simp [go_sem, *]; done))
    have y1 : w3.cell? ⟨w.heap.size + 1 + 1, 1, none⟩ = some (.int .i64 0) := (by first | (simp [go_sem]; done) | (simp [go_sem, *]; done))
    go_wp2_with fail
    have hx0 := y0.symm ▸ World.cell?_setCell_far w3 ⟨w2.heap.size, 1, none⟩ ⟨w.heap.size + 1 + 1, 0, none⟩ (.int .i64 H) (by show w2.heap.size ≠ w.heap.size + 1 + 1; omega)
    have hx1 := y1.symm ▸ World.cell?_setCell_far w3 ⟨w2.heap.size, 1, none⟩ ⟨w.heap.size + 1 + 1, 1, none⟩ (.int .i64 H) (by show w2.heap.size ≠ w.heap.size + 1 + 1; omega)
    have hb4 : Below w.heap.size w (w3.setCell ⟨w2.heap.size, 1, none⟩ (.int .i64 H)) := bel
    generalize w3.setCell ⟨w2.heap.size, 1, none⟩ (.int .i64 H) = w4 at *
    clear hb3 hb2 hb1 y0 y1
    refine bodyPost_ret (v := .agg #[.int .i64 L, .int .i64 H]) ?_ rfl ⟨rfl, bel⟩
    rw [← HL.out]
    simp [results, Tryz.results119, go_sem, *]
theorem ends_of {t : Ty} {x : Tst} (hu : uOneB x = true) (hw : x.wf) (hk : x.lo.k = t.k) (hn : numK t.k = true) (hs : 0 ≤ t.sc ∧ t.sc ≤ 6) : EndV t x.lo ∧ (x.k = 6 ∧ EndV t x.hi ∨ 1 ≤ x.k ∧ x.k ≤ 5) := by
  unfold uOneB at hu
  rw [Bool.and_eq_true, Bool.and_eq_true] at hu
  refine ⟨⟨hw.lo, hu.1.1, hk, hs, hn⟩, ?_⟩
  by_cases h6 : x.k = 6
  · rw [if_pos h6, Bool.and_eq_true, beq_iff_eq] at hu
    exact .inl ⟨h6, ⟨hw.hi, hu.1.2, hu.2.2.trans hk, hs, hn⟩⟩
  · rw [if_neg h6] at hu
    simp only [Bool.and_eq_true, decide_eq_true_eq] at hu
    exact .inr (by omega)
theorem betw_any (t : Ty) (x : Tst) (A : Option Addr) (c : Nat) (w : World) (hu : uOneB x = true) (hw : x.wf) (hk : x.lo.k = t.k) (hn : numK t.k = true) (hs : 0 ≤ t.sc ∧ t.sc ≤ 6) :
    Calls Tryz.prog 119 #[.agg #[.int .i64 t.k, .int .i64 t.sc, .bool t.c.any, .bool t.c.neg, .slice A t.c.ts.length c], .agg #[.int .i64 x.k, .int .i64 x.lo.k, .int .i64 x.lo.n, .int .i64 x.lo.s, .string x.lo.t, .int .i64 x.lo.i, .int .i64 x.hi.k, .int .i64 x.hi.n, .int .i64 x.hi.s, .string x.hi.t, .int .i64 x.hi.i, .bool x.ol, .bool x.oh]] w fun e w' => e = .returned (.agg #[.int .i64 (betwLo t x), .int .i64 (betwHi t x)]) ∧ Below w.heap.size w w' := by
  obtain ⟨h1, ⟨h2, h3⟩ | h2⟩ := ends_of hu hw hk hn hs
  · exact betw6_any t x A c w h1 h3 h2
  · exact betw1_any t x A c w h1 h2
theorem betw_wf {t : Ty} {x : Tst} (hu : uOneB x = true) (hw : x.wf) (hk : x.lo.k = t.k) (hn : numK t.k = true) (hs : 0 ≤ t.sc ∧ t.sc ≤ 6) : SpWf (betwLo t x, betwHi t x) := by
  obtain ⟨h1, h2⟩ := ends_of hu hw hk hn hs
  have b1 := floor_bd h1
  have bl : -999999999999 ≤ lowK t.k ∧ lowK t.k ≤ 0 := by unfold lowK; split <;> omega
  have bt : 0 ≤ topK t.k ∧ topK t.k ≤ 999999999999 := by unfold topK; split <;> omega
  have b2 : x.k = 6 → -1000000000000000000 ≤ floorV t.sc x.hi ∧ floorV t.sc x.hi ≤ 1000000000000000000 := fun h6 => by
    rcases h2 with ⟨_, h⟩ | h
    · exact floor_bd h
    · omega
  have l1 : leastV t.sc x.lo = floorV t.sc x.lo ∨ leastV t.sc x.lo = floorV t.sc x.lo + 1 := by unfold leastV; split; exact .inl rfl; exact .inr rfl
  have l2 : belowV t.sc x.lo = floorV t.sc x.lo ∨ belowV t.sc x.lo = floorV t.sc x.lo - 1 := by unfold belowV; split; exact .inr rfl; exact .inl rfl
  have l3 : belowV t.sc x.hi = floorV t.sc x.hi ∨ belowV t.sc x.hi = floorV t.sc x.hi - 1 := by unfold belowV; split; exact .inr rfl; exact .inl rfl
  have hLo : -1000000000000000000 ≤ betwLo t x ∧ betwLo t x ≤ 1000000000000000001 := by
    unfold betwLo
    repeat' split
    all_goals omega
  have hHi : -1000000000000000001 ≤ betwHi t x ∧ betwHi t x ≤ 1000000000000000001 := by
    have h6 : 1 ≤ x.k ∧ x.k ≤ 6 := by rcases h2 with ⟨h, _⟩ | h <;> omega
    unfold betwHi mostV
    repeat' split
    all_goals first | omega | (have := b2 (by omega); omega)
  exact ⟨by show _ ≤ betwLo t x; omega, by show betwLo t x ≤ _; omega, by show _ ≤ betwHi t x; omega, by show betwHi t x ≤ _; omega⟩
end Go.Proofs.YtankkadnhdfpfaaGreatDoor
