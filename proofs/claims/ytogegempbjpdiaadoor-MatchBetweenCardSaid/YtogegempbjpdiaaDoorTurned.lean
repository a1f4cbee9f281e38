/- soffitlaw12.MatchTurned and MatchBetween: the plain laws. -/
import Derived.Test.YtogegempbjpdiaaDoorOne
set_option linter.unusedSimpArgs false
set_option linter.unusedVariables false
namespace Go.Proofs.YtogegempbjpdiaaDoor
open Go.RowKit

def Cel.turn (c : Cel) : Cel := ⟨c.any, !c.neg, c.ts⟩
def tLess (u : Vl) : Tst := ⟨2, u, Vl.zero, false, false⟩
def tMost (u : Vl) : Tst := ⟨3, u, Vl.zero, false, false⟩
def tMore (u : Vl) : Tst := ⟨4, u, Vl.zero, false, false⟩
def tLeast (u : Vl) : Tst := ⟨5, u, Vl.zero, false, false⟩
theorem tst_one_wf {k : Int} {u : Vl} (hk : 0 ≤ k ∧ k ≤ 6) (hu : u.wf) : (⟨k, u, Vl.zero, false, false⟩ : Tst).wf := ⟨⟨by show -9223372036854775808 ≤ k; omega, by show k ≤ 9223372036854775807; omega⟩, hu, zero_wf⟩
theorem eq_zero : eqB Vl.zero Vl.zero = true := (eqB_iff _ _).mpr rfl
theorem uOne_rank {k : Int} {u : Vl} (hk : 1 < k ∧ k < 6) : uOneB ⟨k, u, Vl.zero, false, false⟩ = (sndB u && rankB u) := by
  unfold uOneB
  have h1 : (k == 1) = false := by simp; omega
  have h6 : k ≠ 6 := by omega
  simp only [zero_sound, eq_zero, h1, if_neg h6, decide_eq_true (show 1 ≤ k ∧ k < 6 by omega)]
  simp
theorem turn_snd {c : Cel} (h : c.any = false) : uSndB c.turn = uSndB c := by
  unfold uSndB Cel.turn; simp [h]
theorem turn_any {c : Cel} (h : c.any = true) : (uSndB c && uSndB c.turn) = false := by
  unfold uSndB Cel.turn; cases c.neg <;> simp [h]
theorem turn_all {c : Cel} (h : c.any = false) (v : Vl) : allB c.turn v = !allB c v := by
  unfold allB Cel.turn
  show (if (c.ts.any _) = true then _ else _) = _
  cases c.ts.any (fun t => oneB t v) <;> simp [h]
theorem oneB_less (u v : Vl) : oneB (tLess u) v = lessB v u := rfl
theorem oneB_most (u v : Vl) : oneB (tMost u) v = (lessB v u || eqB v u) := rfl
theorem oneB_more (u v : Vl) : oneB (tMore u) v = lessB u v := rfl
theorem oneB_least (u v : Vl) : oneB (tLeast u) v = (lessB u v || eqB v u) := rfl
/-- of the three just one, where the kinds are alike; else none -/
theorem apart_three {u v : Vl} (su : sndB u = true) (sv : sndB v = true) (hr : rankB u = true) :
    (lessB v u = true ∧ (lessB u v || eqB v u) = false ∧ (v.k == u.k) = true) ∨ (lessB v u = false ∧ (lessB u v || eqB v u) = true ∧ (v.k == u.k) = true) ∨ (lessB v u = false ∧ (lessB u v || eqB v u) = false ∧ (v.k == u.k) = false) := by
  by_cases hk : v.k = u.k
  · have hrv : rankB v = true := rankB_of hr hk
    rw [lessB_eq sv su hk hr, lessB_eq su sv hk.symm hrv, eqB_rk sv su hk hr]
    have hkk : (v.k == u.k) = true := by simp [hk]
    rw [hkk]
    by_cases h1 : rk v < rk u
    · exact Or.inl ⟨by simp [h1], by simp; omega, rfl⟩
    · exact Or.inr (Or.inl ⟨by simp; omega, by simp; omega, rfl⟩)
  · rw [lessB_ne hk, lessB_ne (Ne.symm hk), eqB_ne hk]
    exact Or.inr (Or.inr ⟨rfl, rfl, by simp [hk]⟩)

end Go.Proofs.YtogegempbjpdiaaDoor
