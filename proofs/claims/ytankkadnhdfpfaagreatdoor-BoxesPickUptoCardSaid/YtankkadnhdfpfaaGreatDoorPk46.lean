import Derived.Test.YtankkadnhdfpfaaGreatDoorPk14
import Derived.Test.YtankkadnhdfpfaaGreatDoorPk06
import Derived.Test.YtankkadnhdfpfaaGreatDoorPk45
import Derived.Test.YtankkadnhdfpfaaGreatDoorPk42
import Derived.Test.YtankkadnhdfpfaaGreatDoorPk16
import Derived.Test.YtankkadnhdfpfaaGreatDoorPk24
/- soffitref15: Sound, Units, In, Has, Tidy, Zero: walked. -/
set_option linter.unusedSimpArgs false
set_option linter.unusedVariables false
namespace Go.Proofs.YtankkadnhdfpfaaGreatDoor
open Go.RowKit Sp Wd

set_option maxRecDepth 100000 in
set_option maxHeartbeats 1600000 in
theorem rSetSound_any (t : Ty) (A : Option Addr) (c : Nat) (w : World) (hT : TyAt w t A) :
    Calls Tryz.prog 36 #[.agg #[.int .i64 t.k, .int .i64 t.sc, .bool t.c.any, .bool t.c.neg, .slice A t.c.ts.length c]] w fun e w' => e = .returned (.bool (tySnd t)) ∧ Below w.heap.size w w' := by
  obtain ⟨B, hB⟩ : ∃ B, tySnd t = B := ⟨_, rfl⟩
  rw [hB]
  unfold tySnd at hB
  have HT := Lib.hid hT
  clear hT
  have five : (t.k < 1) ∨ (¬ t.k < 1 ∧ 4 < t.k) ∨ (¬ t.k < 1 ∧ ¬ 4 < t.k ∧ t.sc < 0) ∨ (¬ t.k < 1 ∧ ¬ 4 < t.k ∧ ¬ t.sc < 0 ∧ 6 < t.sc) ∨ (¬ t.k < 1 ∧ ¬ 4 < t.k ∧ ¬ t.sc < 0 ∧ ¬ 6 < t.sc) := by omega
  rcases five with h1 | ⟨h1, h2⟩ | ⟨h1, h2, h3⟩ | ⟨h1, h2, h3, h4⟩ | ⟨h1, h2, h3, h4⟩
  · have HB : Hid (B = false) := by show B = _; rw [← hB, decide_eq_false (by omega)]; rfl
    clear hB
    go_enter Tryz.func36, Tryz.ntmps36
    go_wp2_with fail
    go_ret
    exact ⟨ret_bool (by rw [HB.out]), bel⟩
  · have HB : Hid (B = false) := by show B = _; rw [← hB, decide_eq_false (by omega)]; rfl
    clear hB
    go_enter Tryz.func36, Tryz.ntmps36
    go_wp2_with fail
    go_ret
    exact ⟨ret_bool (by rw [HB.out]), bel⟩
  · have HB : Hid (B = false) := by show B = _; rw [← hB, decide_eq_false (by omega)]; rfl
    clear hB
    go_enter Tryz.func36, Tryz.ntmps36
    go_wp2_with fail
    go_ret
    exact ⟨ret_bool (by rw [HB.out]), bel⟩
  · have HB : Hid (B = false) := by show B = _; rw [← hB, decide_eq_false (by omega)]; rfl
    clear hB
    go_enter Tryz.func36, Tryz.ntmps36
    go_wp2_with fail
    go_ret
    exact ⟨ret_bool (by rw [HB.out]), bel⟩
  · by_cases hk : t.k = 1
    · have HB : Hid (uSndB t.c = B) := by show _ = B; rw [← hB, decide_eq_true (by omega)]; rfl
      have e1 : (t.k != 1) = false := by simp [hk]
      clear hB hk
      go_enter Tryz.func36, Tryz.ntmps36
      go_wp2_with fail
      refine (rUSound_any t.c A c _ (HT.out.rd.below bel) HT.out.ts HT.out.n).mono ?_
      rintro e w1 ⟨rfl, hb1⟩
      rw [HB.out]
      go_wp2_with fail
      go_ret
      exact ⟨rfl, bel⟩
    · have e1 : (t.k != 1) = true := by rw [bne_iff_ne]; exact hk
      by_cases hs : t.sc = 0
      · have HB : Hid (uSndB t.c = B) := by show _ = B; rw [← hB, decide_eq_true (by omega)]; rfl
        have e2 : (t.sc != 0) = false := by simp [hs]
        clear hB hk hs
        go_enter Tryz.func36, Tryz.ntmps36
        go_wp2_with fail
        refine (rUSound_any t.c A c _ (HT.out.rd.below bel) HT.out.ts HT.out.n).mono ?_
        rintro e w1 ⟨rfl, hb1⟩
        rw [HB.out]
        go_wp2_with fail
        go_ret
        exact ⟨rfl, bel⟩
      · have HB : Hid (B = false) := by show B = _; rw [← hB, decide_eq_false (by omega)]; rfl
        have e2 : (t.sc != 0) = true := by rw [bne_iff_ne]; exact hs
        clear hB hk hs
        go_enter Tryz.func36, Tryz.ntmps36
        go_wp2_with fail
        go_ret
        exact ⟨ret_bool (by rw [HB.out]), bel⟩

def unitsR (sc : Int) (v : Vl) : Int := if v.k = 1 then (if (0 ≤ sc ∧ sc ≤ 6) ∧ decSnd v.n v.s = true then atI v.n v.s sc else 0) else v.i
theorem unitsR_eq {sc : Int} {v : Vl} (hs : 0 ≤ sc ∧ sc ≤ 6) (hd : v.k = 1 → decSnd v.n v.s = true) : unitsR sc v = unitsV sc v := by
  unfold unitsR unitsV
  split
  · rename_i h; rw [if_pos ⟨hs, hd h⟩]
  · rfl
theorem atRes_some (n s sc : Int) : ∃ (N : Int) (E : Bool) (r : Int), atRes n s sc = .tuple #[.int .i64 N, .bool E, .int .i64 r] ∧ N = (if (0 ≤ sc ∧ sc ≤ 6) ∧ decSnd n s = true then atI n s sc else 0) := by
  by_cases h : 0 ≤ sc ∧ sc ≤ 6
  · cases hd : decSnd n s
    · exact ⟨_, _, _, atRes_form h hd, by rw [if_neg (by simp)]⟩
    · exact ⟨_, _, _, atRes_yes h hd, by rw [if_pos ⟨h, rfl⟩]⟩
  · exact ⟨_, _, _, atRes_arg h, by rw [if_neg (fun h' => h h'.1)]⟩
set_option maxRecDepth 100000 in
set_option maxHeartbeats 1600000 in
theorem rUnits_any (t : Ty) (v : Vl) (A : Option Addr) (c : Nat) (w : World) (hv : v.wf) :
    Calls Tryz.prog 69 #[.agg #[.int .i64 t.k, .int .i64 t.sc, .bool t.c.any, .bool t.c.neg, .slice A t.c.ts.length c], .agg #[.int .i64 v.k, .int .i64 v.n, .int .i64 v.s, .string v.t, .int .i64 v.i]] w fun e w' => e = .returned (.int .i64 (unitsR t.sc v)) ∧ Below w.heap.size w w' := by
  obtain ⟨N, hN⟩ : ∃ N, unitsR t.sc v = N := ⟨_, rfl⟩
  rw [hN]
  unfold unitsR at hN
  by_cases hk : v.k = 1
  · rw [if_pos hk] at hN
    obtain ⟨N', E, r, hA, hN'⟩ := atRes_some v.n v.s t.sc
    rw [hN] at hN'
    subst hN'
    have HA := Lib.hid hA
    have e1 : (v.k != 1) = false := by simp [hk]
    have I1 := hv.n
    have I2 := hv.s
    clear hN hk hv hA
    go_enter Tryz.func69, Tryz.ntmps69
    go_wp2_with fail
    refine (refAt_any v.n v.s t.sc _ I1 I2).mono ?_
    rintro e w1 ⟨rfl, hb1⟩
    rw [HA.out]
    go_wp2_with fail
    go_ret
    exact ⟨rfl, bel⟩
  · rw [if_neg hk] at hN
    have e1 : (v.k != 1) = true := by rw [bne_iff_ne]; exact hk
    have HN := Lib.hid hN
    clear hk hv hN
    go_enter Tryz.func69, Tryz.ntmps69
    go_wp2_with fail
    go_ret
    exact ⟨ret_int HN.out, bel⟩

set_option maxRecDepth 100000 in
set_option maxHeartbeats 3200000 in
theorem rIn_any (t : Ty) (v : Vl) (A : Option Addr) (c : Nat) (w : World) (hT : TyAt w t A) (hv : v.wf) :
    Calls Tryz.prog 29 #[.agg #[.int .i64 t.k, .int .i64 t.sc, .bool t.c.any, .bool t.c.neg, .slice A t.c.ts.length c], .agg #[.int .i64 v.k, .int .i64 v.n, .int .i64 v.s, .string v.t, .int .i64 v.i]] w fun e w' => e = .returned (.bool (inTy t v)) ∧ Below w.heap.size w w' := by
  obtain ⟨B, hB⟩ : ∃ B, inTy t v = B := ⟨_, rfl⟩
  rw [hB]
  have HT := Lib.hid hT
  have HV := Lib.hid hv
  clear hT hv
  cases hs : tySnd t
  · have HB : Hid (B = false) := by show B = _; rw [← hB]; unfold inTy; rw [hs]; rfl
    have HS := Lib.hid hs
    clear hB hs
    go_enter Tryz.func29, Tryz.ntmps29
    go_wp2_with fail
    refine (rSetSound_any t A c _ (HT.out.below bel)).mono ?_
    rintro e w1 ⟨rfl, hb1⟩
    rw [HS.out]
    go_wp2_with fail
    go_ret
    exact ⟨ret_bool HB.out.symm, bel⟩
  · have hsc := (ty_of hs).2.1
    have hus := (ty_of hs).2.2.2
    have HS := Lib.hid hs
    cases hv : sndB v
    · have HB : Hid (B = false) := by show B = _; rw [← hB]; unfold inTy fitT; rw [hv]; simp
      have HF := Lib.hid hv
      clear hB hs hsc hus hv
      go_enter Tryz.func29, Tryz.ntmps29
      go_wp2_with fail
      refine (rSetSound_any t A c _ (HT.out.below bel)).mono ?_
      rintro e w1 ⟨rfl, hb1⟩
      rw [HS.out]
      have hz1 := hb1.size
      try simp at hz1
      obtain ⟨q1_0, l1_0, r1_0⟩ := aft hb1 (w.heap.size)
      obtain ⟨q1_1, l1_1, r1_1⟩ := aft hb1 (w.heap.size + 1)
      go_wp2_with fail
      refine (rSound_any v _ HV.out).mono ?_
      rintro e w2 ⟨rfl, hb2⟩
      rw [HF.out]
      go_wp2_with fail
      go_ret
      exact ⟨ret_bool HB.out.symm, bel⟩
    · have HF := Lib.hid hv
      cases e0 : (v.k == 0)
      · have h0 : v.k ≠ 0 := by simpa using e0
        have hir := in_ref hs hv h0
        rw [hB] at hir
        have HU := Lib.hid hus
        cases e1 : (v.k == t.k)
        · have HB : Hid (B = false) := by show B = _; rw [hir, e1]; rfl
          have e2 : (v.k != t.k) = true := by rw [bne, e1]; rfl
          clear hB hs hsc hus hv hir h0 e1
          go_enter Tryz.func29, Tryz.ntmps29
          go_wp2_with fail
          refine (rSetSound_any t A c _ (HT.out.below bel)).mono ?_
          rintro e w1 ⟨rfl, hb1⟩
          rw [HS.out]
          have hz1 := hb1.size
          try simp at hz1
          obtain ⟨q1_0, l1_0, r1_0⟩ := aft hb1 (w.heap.size)
          obtain ⟨q1_1, l1_1, r1_1⟩ := aft hb1 (w.heap.size + 1)
          go_wp2_with fail
          refine (rSound_any v _ HV.out).mono ?_
          rintro e w2 ⟨rfl, hb2⟩
          rw [HF.out]
          have hz2 := hb2.size
          try simp at hz2
          obtain ⟨q2_0, l2_0, r2_0⟩ := aft hb2 (w.heap.size)
          obtain ⟨q2_1, l2_1, r2_1⟩ := aft hb2 (w.heap.size + 1)
          go_wp2_with fail
          go_ret
          exact ⟨ret_bool HB.out.symm, bel⟩
        · have e2 : (v.k != t.k) = false := by rw [bne, e1]; rfl
          rw [e1, Bool.true_and] at hir
          have HR : Hid (refAllB t.c v = allB t.c v) := refAll_all hus hv
          generalize allB t.c v = L at *
          cases L
          · have HB : Hid (B = false) := by show B = _; rw [hir]; rfl
            clear hB hs hsc hus hv hir h0 e1
            go_enter Tryz.func29, Tryz.ntmps29
            go_wp2_with fail
            refine (rSetSound_any t A c _ (HT.out.below bel)).mono ?_
            rintro e w1 ⟨rfl, hb1⟩
            rw [HS.out]
            have hz1 := hb1.size
            try simp at hz1
            obtain ⟨q1_0, l1_0, r1_0⟩ := aft hb1 (w.heap.size)
            obtain ⟨q1_1, l1_1, r1_1⟩ := aft hb1 (w.heap.size + 1)
            go_wp2_with fail
            refine (rSound_any v _ HV.out).mono ?_
            rintro e w2 ⟨rfl, hb2⟩
            rw [HF.out]
            have hz2 := hb2.size
            try simp at hz2
            obtain ⟨q2_0, l2_0, r2_0⟩ := aft hb2 (w.heap.size)
            obtain ⟨q2_1, l2_1, r2_1⟩ := aft hb2 (w.heap.size + 1)
            go_wp2_with fail
            refine (rAll_any t.c v A c _ (HT.out.rd.below bel) HT.out.ts HV.out HT.out.n HU.out HF.out).mono ?_
            rintro e w3 ⟨rfl, hb3⟩
            rw [HR.out]
            have hz3 := hb3.size
            try simp at hz3
            obtain ⟨q3_0, l3_0, r3_0⟩ := aft hb3 (w.heap.size)
            obtain ⟨q3_1, l3_1, r3_1⟩ := aft hb3 (w.heap.size + 1)
            go_wp2_with fail
            go_ret
            exact ⟨ret_bool HB.out.symm, bel⟩
          · rw [Bool.true_and] at hir
            cases e3 : (v.k != 1)
            · have hk1 : v.k = 1 := by simpa using e3
              have HA := Lib.hid (atRes_yes hsc (sndOne hv hk1).2.2)
              rw [e3, Bool.false_or] at hir
              generalize atI v.n v.s t.sc = N at *
              generalize atE v.n v.s t.sc = E at *
              have HB := Lib.hid hir
              have I1 := HV.out.n
              have I2 := HV.out.s
              clear hB hs hsc hus hv hir h0 e1 hk1
              unfold rngB at HB
              cases E
              · skip
                go_enter Tryz.func29, Tryz.ntmps29
                go_wp2_with fail
                refine (rSetSound_any t A c _ (HT.out.below bel)).mono ?_
                rintro e w1 ⟨rfl, hb1⟩
                rw [HS.out]
                have hz1 := hb1.size
                try simp at hz1
                obtain ⟨q1_0, l1_0, r1_0⟩ := aft hb1 (w.heap.size)
                obtain ⟨q1_1, l1_1, r1_1⟩ := aft hb1 (w.heap.size + 1)
                go_wp2_with fail
                refine (rSound_any v _ HV.out).mono ?_
                rintro e w2 ⟨rfl, hb2⟩
                rw [HF.out]
                have hz2 := hb2.size
                try simp at hz2
                obtain ⟨q2_0, l2_0, r2_0⟩ := aft hb2 (w.heap.size)
                obtain ⟨q2_1, l2_1, r2_1⟩ := aft hb2 (w.heap.size + 1)
                go_wp2_with fail
                refine (rAll_any t.c v A c _ (HT.out.rd.below bel) HT.out.ts HV.out HT.out.n HU.out HF.out).mono ?_
                rintro e w3 ⟨rfl, hb3⟩
                rw [HR.out]
                have hz3 := hb3.size
                try simp at hz3
                obtain ⟨q3_0, l3_0, r3_0⟩ := aft hb3 (w.heap.size)
                obtain ⟨q3_1, l3_1, r3_1⟩ := aft hb3 (w.heap.size + 1)
                go_wp2_with fail
                refine (refAt_any v.n v.s t.sc _ I1 I2).mono ?_
                rintro e w4 ⟨rfl, hb4⟩
                rw [HA.out]
                have hz4 := hb4.size
                try simp at hz4
                obtain ⟨q4_0, l4_0, r4_0⟩ := aft hb4 (w.heap.size)
                obtain ⟨q4_1, l4_1, r4_1⟩ := aft hb4 (w.heap.size + 1)
                go_wp2_with fail
                all_goals go_ret
                all_goals exact ⟨ret_bool (by rw [HB.out]; rfl), bel⟩
              · by_cases g1 : -999999999999 ≤ N
                · by_cases g2 : N ≤ 999999999999
                  all_goals
                    go_enter Tryz.func29, Tryz.ntmps29
                    go_wp2_with fail
                    refine (rSetSound_any t A c _ (HT.out.below bel)).mono ?_
                    rintro e w1 ⟨rfl, hb1⟩
                    rw [HS.out]
                    have hz1 := hb1.size
                    try simp at hz1
                    obtain ⟨q1_0, l1_0, r1_0⟩ := aft hb1 (w.heap.size)
                    obtain ⟨q1_1, l1_1, r1_1⟩ := aft hb1 (w.heap.size + 1)
                    go_wp2_with fail
                    refine (rSound_any v _ HV.out).mono ?_
                    rintro e w2 ⟨rfl, hb2⟩
                    rw [HF.out]
                    have hz2 := hb2.size
                    try simp at hz2
                    obtain ⟨q2_0, l2_0, r2_0⟩ := aft hb2 (w.heap.size)
                    obtain ⟨q2_1, l2_1, r2_1⟩ := aft hb2 (w.heap.size + 1)
                    go_wp2_with fail
                    refine (rAll_any t.c v A c _ (HT.out.rd.below bel) HT.out.ts HV.out HT.out.n HU.out HF.out).mono ?_
                    rintro e w3 ⟨rfl, hb3⟩
                    rw [HR.out]
                    have hz3 := hb3.size
                    try simp at hz3
                    obtain ⟨q3_0, l3_0, r3_0⟩ := aft hb3 (w.heap.size)
                    obtain ⟨q3_1, l3_1, r3_1⟩ := aft hb3 (w.heap.size + 1)
                    go_wp2_with fail
                    refine (refAt_any v.n v.s t.sc _ I1 I2).mono ?_
                    rintro e w4 ⟨rfl, hb4⟩
                    rw [HA.out]
                    have hz4 := hb4.size
                    try simp at hz4
                    obtain ⟨q4_0, l4_0, r4_0⟩ := aft hb4 (w.heap.size)
                    obtain ⟨q4_1, l4_1, r4_1⟩ := aft hb4 (w.heap.size + 1)
                    go_wp2_with fail
                    all_goals go_ret
                    all_goals exact ⟨ret_bool (by rw [HB.out]; simp [g1, g2] <;> omega), bel⟩
                · skip
                  go_enter Tryz.func29, Tryz.ntmps29
                  go_wp2_with fail
                  refine (rSetSound_any t A c _ (HT.out.below bel)).mono ?_
                  rintro e w1 ⟨rfl, hb1⟩
                  rw [HS.out]
                  have hz1 := hb1.size
                  try simp at hz1
                  obtain ⟨q1_0, l1_0, r1_0⟩ := aft hb1 (w.heap.size)
                  obtain ⟨q1_1, l1_1, r1_1⟩ := aft hb1 (w.heap.size + 1)
                  go_wp2_with fail
                  refine (rSound_any v _ HV.out).mono ?_
                  rintro e w2 ⟨rfl, hb2⟩
                  rw [HF.out]
                  have hz2 := hb2.size
                  try simp at hz2
                  obtain ⟨q2_0, l2_0, r2_0⟩ := aft hb2 (w.heap.size)
                  obtain ⟨q2_1, l2_1, r2_1⟩ := aft hb2 (w.heap.size + 1)
                  go_wp2_with fail
                  refine (rAll_any t.c v A c _ (HT.out.rd.below bel) HT.out.ts HV.out HT.out.n HU.out HF.out).mono ?_
                  rintro e w3 ⟨rfl, hb3⟩
                  rw [HR.out]
                  have hz3 := hb3.size
                  try simp at hz3
                  obtain ⟨q3_0, l3_0, r3_0⟩ := aft hb3 (w.heap.size)
                  obtain ⟨q3_1, l3_1, r3_1⟩ := aft hb3 (w.heap.size + 1)
                  go_wp2_with fail
                  refine (refAt_any v.n v.s t.sc _ I1 I2).mono ?_
                  rintro e w4 ⟨rfl, hb4⟩
                  rw [HA.out]
                  have hz4 := hb4.size
                  try simp at hz4
                  obtain ⟨q4_0, l4_0, r4_0⟩ := aft hb4 (w.heap.size)
                  obtain ⟨q4_1, l4_1, r4_1⟩ := aft hb4 (w.heap.size + 1)
                  go_wp2_with fail
                  all_goals go_ret
                  all_goals exact ⟨ret_bool (by rw [HB.out]; simp [g1] <;> omega), bel⟩
            · have HB : Hid (B = true) := by show B = _; rw [hir, e3]; rfl
              clear hB hs hsc hus hv hir h0 e1
              go_enter Tryz.func29, Tryz.ntmps29
              go_wp2_with fail
              refine (rSetSound_any t A c _ (HT.out.below bel)).mono ?_
              rintro e w1 ⟨rfl, hb1⟩
              rw [HS.out]
              have hz1 := hb1.size
              try simp at hz1
              obtain ⟨q1_0, l1_0, r1_0⟩ := aft hb1 (w.heap.size)
              obtain ⟨q1_1, l1_1, r1_1⟩ := aft hb1 (w.heap.size + 1)
              go_wp2_with fail
              refine (rSound_any v _ HV.out).mono ?_
              rintro e w2 ⟨rfl, hb2⟩
              rw [HF.out]
              have hz2 := hb2.size
              try simp at hz2
              obtain ⟨q2_0, l2_0, r2_0⟩ := aft hb2 (w.heap.size)
              obtain ⟨q2_1, l2_1, r2_1⟩ := aft hb2 (w.heap.size + 1)
              go_wp2_with fail
              refine (rAll_any t.c v A c _ (HT.out.rd.below bel) HT.out.ts HV.out HT.out.n HU.out HF.out).mono ?_
              rintro e w3 ⟨rfl, hb3⟩
              rw [HR.out]
              have hz3 := hb3.size
              try simp at hz3
              obtain ⟨q3_0, l3_0, r3_0⟩ := aft hb3 (w.heap.size)
              obtain ⟨q3_1, l3_1, r3_1⟩ := aft hb3 (w.heap.size + 1)
              go_wp2_with fail
              go_ret
              exact ⟨ret_bool HB.out.symm, bel⟩
      · have HB : Hid (B = true) := by show B = _; rw [← hB]; exact in_null hs hv (by simpa using e0)
        clear hB hs hsc hus hv
        go_enter Tryz.func29, Tryz.ntmps29
        go_wp2_with fail
        refine (rSetSound_any t A c _ (HT.out.below bel)).mono ?_
        rintro e w1 ⟨rfl, hb1⟩
        rw [HS.out]
        have hz1 := hb1.size
        try simp at hz1
        obtain ⟨q1_0, l1_0, r1_0⟩ := aft hb1 (w.heap.size)
        obtain ⟨q1_1, l1_1, r1_1⟩ := aft hb1 (w.heap.size + 1)
        go_wp2_with fail
        refine (rSound_any v _ HV.out).mono ?_
        rintro e w2 ⟨rfl, hb2⟩
        rw [HF.out]
        have hz2 := hb2.size
        try simp at hz2
        obtain ⟨q2_0, l2_0, r2_0⟩ := aft hb2 (w.heap.size)
        obtain ⟨q2_1, l2_1, r2_1⟩ := aft hb2 (w.heap.size + 1)
        go_wp2_with fail
        go_ret
        exact ⟨ret_bool HB.out.symm, bel⟩
end Go.Proofs.YtankkadnhdfpfaaGreatDoor
