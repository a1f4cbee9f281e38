/- The order of values: the signs. -/
import Derived.Test.YthicilfhnakhmaaGreatDoorVOrd
set_option linter.unusedSimpArgs false
set_option linter.unusedVariables false
namespace Go.Proofs.YthicilfhnakhmaaGreatDoor
open Go.RowKit Go.Sort

theorem cmpV_pos {a b : Vl} (h : 0 < cmpV a b) : ltV b a = true := by
  cases hb : ltV b a
  · exfalso
    have h2 : ltV a b = false := by
      rw [← ltOf_cmpV]
      unfold ltOf
      exact decide_eq_false (by omega)
    have h3 : ¬ cmpV b a < 0 := by rw [← ltOf_cmpV] at hb; unfold ltOf at hb; exact of_decide_eq_false hb
    have h4 : cmpV a b = -cmpV b a ∨ cmpV a b = 0 := by
      unfold cmpV at h h3 ⊢
      by_cases hk : a.k = b.k
      · rw [if_pos hk, if_pos hk.symm] at *
        by_cases h1 : a.k = 1
        · have h1' : b.k = 1 := by omega
          rw [if_pos h1, if_pos h1'] at *
          unfold cmpD cmpI at *
          by_cases u1 : unitsI a.n a.s < unitsI b.n b.s
          · simp [u1] at h
          · by_cases u2 : unitsI b.n b.s < unitsI a.n a.s
            · simp [u2] at h3
            · simp [u1, u2] at h
        · have h1' : ¬ b.k = 1 := by omega
          rw [if_neg h1, if_neg h1'] at *
          unfold cmpT cmpI orI at *
          rw [bytesLess_lt, bytesLess_lt] at *
          cases e1 : ltStr a.t.toList b.t.toList
          · cases e2 : ltStr b.t.toList a.t.toList
            · have e := ltStr_tri e1 e2
              rw [e] at h h3
              rw [ltStr_irrefl] at h h3
              by_cases i1 : a.i < b.i
              · simp [i1] at h
              · by_cases i2 : b.i < a.i
                · simp [i2] at h3
                · simp [i1, i2] at h
            · rw [e2] at h3
              simp at h3
          · rw [e1] at h
            simp at h
      · have hk' : ¬ b.k = a.k := fun h => hk h.symm
        rw [if_neg hk, if_neg hk'] at *
        unfold cmpI at *
        by_cases u1 : a.k < b.k
        · simp [u1] at h
        · have u2 : b.k < a.k := by omega
          simp [u2] at h3
    omega
  · rfl
theorem cmpV_neg {a b : Vl} (h : cmpV a b < 0) : ltV a b = true := by rw [← ltOf_cmpV]; unfold ltOf; exact decide_eq_true h
end Go.Proofs.YthicilfhnakhmaaGreatDoor
