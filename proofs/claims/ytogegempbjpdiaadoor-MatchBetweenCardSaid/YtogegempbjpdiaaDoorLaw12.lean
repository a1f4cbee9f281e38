/- What a test answers, as plain Lean: the program's way and the reference's agree on what may be. -/
import Derived.Test.YtogegempbjpdiaaDoorRAll
set_option linter.unusedSimpArgs false
set_option linter.unusedVariables false
namespace Go.Proofs.YtogegempbjpdiaaDoor
open Go.RowKit

/-- the rank of a number or a date within its kind -/
def rk (v : Vl) : Int := if v.k = 1 then unitsI v.n v.s else v.i

theorem units_inj {n s n' s' : Int} (h : decSnd n s = true) (h' : decSnd n' s' = true) (hu : unitsI n s = unitsI n' s') : n = n' ∧ s = s' := by
  obtain ⟨a1, a2, a3, a4, a5⟩ := decSnd_of h
  obtain ⟨b1, b2, b3, b4, b5⟩ := decSnd_of h'
  have hs : s = 0 ∨ s = 1 ∨ s = 2 ∨ s = 3 ∨ s = 4 ∨ s = 5 ∨ s = 6 := by omega
  have hs' : s' = 0 ∨ s' = 1 ∨ s' = 2 ∨ s' = 3 ∨ s' = 4 ∨ s' = 5 ∨ s' = 6 := by omega
  unfold unitsI at hu
  rcases hs with rfl | rfl | rfl | rfl | rfl | rfl | rfl <;> rcases hs' with rfl | rfl | rfl | rfl | rfl | rfl | rfl <;>
    (simp only [show (0 : Int).toNat = 0 from rfl, show (1 : Int).toNat = 1 from rfl, show (2 : Int).toNat = 2 from rfl, show (3 : Int).toNat = 3 from rfl, show (4 : Int).toNat = 4 from rfl, show (5 : Int).toNat = 5 from rfl, show (6 : Int).toNat = 6 from rfl] at hu
     simp only [Nat.reduceSub, Int.reducePow] at hu
     omega)

theorem rank_cases {v : Vl} (h : rankB v = true) : v.k = 1 ∨ v.k = 4 := by simpa [rankB] using h
theorem sndOne {v : Vl} (h : sndB v = true) (hk : v.k = 1) : v.t.toList = [] ∧ v.i = 0 ∧ decSnd v.n v.s = true := by
  unfold sndB at h
  rw [if_neg (by omega), if_pos hk] at h
  simp only [Bool.and_eq_true, decide_eq_true_eq] at h
  exact ⟨h.1.1, h.1.2, h.2⟩
theorem sndFour {v : Vl} (h : sndB v = true) (hk : v.k = 4) : v.n = 0 ∧ v.s = 0 ∧ v.t.toList = [] := by
  unfold sndB at h
  rw [if_neg (by omega), if_neg (by omega), if_neg (by omega), if_neg (by omega), if_pos hk] at h
  simp only [decide_eq_true_eq] at h
  exact ⟨h.1, h.2.1, h.2.2.1⟩
theorem cmpT_nil {a b : ByteArray} (ha : a.toList = []) (hb : b.toList = []) : cmpT a b = 0 := by
  unfold cmpT; rw [ha, hb]; rfl
theorem cmpV_rk {a b : Vl} (sa : sndB a = true) (sb : sndB b = true) (hk : a.k = b.k) (hr : rankB b = true) : cmpV a b = cmpI (rk a) (rk b) := by
  unfold cmpV rk
  rw [if_pos hk]
  rcases rank_cases hr with h | h
  · rw [if_pos (by omega), if_pos (by omega), if_pos h]; rfl
  · rw [if_neg (by omega), if_neg (by omega), if_neg (by omega), cmpT_nil (sndFour sa (by omega)).2.2 (sndFour sb h).2.2]; rfl
theorem eqB_rk {a b : Vl} (sa : sndB a = true) (sb : sndB b = true) (hk : a.k = b.k) (hr : rankB b = true) : eqB a b = decide (rk a = rk b) := by
  rw [Bool.eq_iff_iff, eqB_iff, decide_eq_true_eq]
  constructor
  · rintro rfl; rfl
  · intro h
    unfold rk at h
    obtain ⟨k, n, s, t, i⟩ := a
    obtain ⟨k', n', s', t', i'⟩ := b
    simp only at hk h
    subst hk
    rcases rank_cases hr with h1 | h1
    · simp only at h1; subst h1
      obtain ⟨x1, x2, x3⟩ := sndOne sa rfl
      obtain ⟨y1, y2, y3⟩ := sndOne sb rfl
      rw [if_pos rfl, if_pos rfl] at h
      obtain ⟨rfl, rfl⟩ := units_inj x3 y3 h
      simp only at x1 x2 y1 y2
      rw [x2, y2, toList_inj (x1.trans y1.symm)]
    · simp only at h1; subst h1
      obtain ⟨x1, x2, x3⟩ := sndFour sa rfl
      obtain ⟨y1, y2, y3⟩ := sndFour sb rfl
      rw [if_neg (by decide), if_neg (by decide)] at h
      simp only at x1 x2 x3 y1 y2 y3
      rw [x1, x2, y1, y2, h, toList_inj (x3.trans y3.symm)]
theorem cmpI_lt (x y : Int) : (cmpI x y < 0) = (x < y) := by unfold cmpI; rw [eq_iff_iff]; split <;> (try split) <;> omega
theorem cmpI_le (x y : Int) : (cmpI x y ≤ 0) = (x ≤ y) := by unfold cmpI; rw [eq_iff_iff]; split <;> (try split) <;> omega
theorem cmpI_gt (x y : Int) : (0 < cmpI x y) = (y < x) := by unfold cmpI; rw [eq_iff_iff]; split <;> (try split) <;> omega
theorem cmpI_ge (x y : Int) : (0 ≤ cmpI x y) = (y ≤ x) := by unfold cmpI; rw [eq_iff_iff]; split <;> (try split) <;> omega
theorem cmpI_eq (x y : Int) : (cmpI x y = 0) = (x = y) := by unfold cmpI; rw [eq_iff_iff]; split <;> (try split) <;> omega
theorem isB_truth (b : Bool) : isB (truthV b) = b := by
  rw [Bool.eq_iff_iff]; unfold isB; rw [eqB_iff]; cases b <;> simp [truthV, b2i]
theorem isB_zero : isB Vl.zero = false := by
  rw [Bool.eq_false_iff]; unfold isB; intro h; exact absurd ((eqB_iff _ _).mp h) (by simp [truthV, Vl.zero])
theorem lessB_eq {a b : Vl} (sa : sndB a = true) (sb : sndB b = true) (hk : a.k = b.k) (hr : rankB b = true) : lessB a b = decide (rk a < rk b) := by
  have h := rank_cases hr
  unfold lessB lessV
  rw [if_pos ⟨by rw [sa, sb]; rfl, hk, by omega, by omega⟩, isB_truth, cmpV_rk sa sb hk hr]
  unfold cmpI
  by_cases h1 : rk a < rk b <;> by_cases h2 : rk b < rk a <;> simp [h1, h2]
theorem lessB_ne {a b : Vl} (hk : a.k ≠ b.k) : lessB a b = false := by
  unfold lessB lessV
  rw [if_neg (fun h => hk h.2.1), isB_zero]
theorem eqB_ne {a b : Vl} (hk : a.k ≠ b.k) : eqB a b = false := by
  rw [Bool.eq_false_iff]; intro h; exact hk (congrArg Vl.k ((eqB_iff a b).mp h))
theorem eqB_comm (a b : Vl) : eqB a b = eqB b a := by
  rw [Bool.eq_iff_iff, eqB_iff, eqB_iff]; exact eq_comm
theorem uOneB_six {t : Tst} (h : uOneB t = true) (hk : t.k = 6) : rankB t.lo = true ∧ t.hi.k = t.lo.k := by
  unfold uOneB at h; rw [if_pos hk] at h
  simp only [Bool.and_eq_true, beq_iff_eq] at h; exact h.2
theorem uOneB_rank {t : Tst} (h : uOneB t = true) (hk : t.k ≠ 1) : rankB t.lo = true := by
  unfold uOneB at h
  by_cases h6 : t.k = 6
  · exact (uOneB_six (by unfold uOneB; exact h) h6).1
  · rw [if_neg h6] at h
    simp only [Bool.and_eq_true, Bool.or_eq_true, beq_iff_eq] at h
    rcases h.2.1.1.1.2 with h | h
    · exact h
    · exact absurd h hk
theorem uOneB_kind {t : Tst} (h : uOneB t = true) : 1 ≤ t.k ∧ t.k ≤ 6 := by
  unfold uOneB at h
  by_cases h6 : t.k = 6
  · omega
  · rw [if_neg h6] at h
    simp only [Bool.and_eq_true, decide_eq_true_eq] at h
    have := h.2.1.1.1.1
    omega
theorem rankB_of {a b : Vl} (h : rankB b = true) (hk : a.k = b.k) : rankB a = true := by
  unfold rankB at *; rw [hk]; exact h

/-- ONE TEST: the reference's answer is the program's. -/
theorem holds_one {t : Tst} {v : Vl} (ht : uOneB t = true) (sv : sndB v = true) : holdsB t v = oneB t v := by
  have sl := uOneB_lo ht
  have sh := uOneB_hi ht
  unfold holdsB oneB
  by_cases h1 : t.k = 1
  · rw [if_pos h1, if_pos h1, eqB_comm]
  · rw [if_neg h1, if_neg h1]
    have hr := uOneB_rank ht h1
    by_cases hk : v.k = t.lo.k
    · have hrv := rankB_of hr hk
      rw [if_pos hk, cmpV_rk sv sl hk hr, lessB_eq sv sl hk hr, lessB_eq sl sv hk.symm hrv, eqB_rk sv sl hk hr]
      by_cases h6 : t.k = 6
      · have hk' : v.k = t.hi.k := by rw [(uOneB_six ht h6).2]; exact hk
        have hr' : rankB t.hi = true := rankB_of hr (uOneB_six ht h6).2
        rw [cmpV_rk sv sh hk' hr', lessB_eq sv sh hk' hr', eqB_rk sv sh hk' hr']
        have n2 : ¬ t.k = 2 := by omega
        have n3 : ¬ t.k = 3 := by omega
        have n4 : ¬ t.k = 4 := by omega
        have n5 : ¬ t.k = 5 := by omega
        simp only [if_neg n2, if_neg n3, if_neg n4, if_neg n5, cmpI_lt, cmpI_eq]
        generalize rk v = x; generalize rk t.lo = y; generalize rk t.hi = z
        generalize (decide (x < z) || decide (x = z) && !t.oh) = Q
        cases Q <;> cases t.ol <;> rw [Bool.eq_iff_iff] <;> simp <;> omega
      · have hkk := uOneB_kind ht
        have : t.k = 2 ∨ t.k = 3 ∨ t.k = 4 ∨ t.k = 5 := by omega
        generalize rk v = x at *; generalize rk t.lo = y at *
        rcases this with h | h | h | h <;> simp only [h, reduceIte, Int.reduceEq, cmpI_lt, cmpI_le, cmpI_gt, cmpI_ge] <;> rw [Bool.eq_iff_iff] <;> simp <;> omega
    · have hk2 : ¬ t.lo.k = v.k := fun h => hk h.symm
      rw [if_neg hk, lessB_ne hk, lessB_ne hk2, eqB_ne hk]
      have hkk := uOneB_kind ht
      have : t.k = 2 ∨ t.k = 3 ∨ t.k = 4 ∨ t.k = 5 ∨ t.k = 6 := by omega
      rcases this with h | h | h | h | h <;> simp [h]

/-- A CELL: the reference's answer is the program's. -/
theorem refAll_all {c : Cel} {v : Vl} (hc : uSndB c = true) (sv : sndB v = true) : refAllB c v = allB c v := by
  have h : c.ts.any (fun t => holdsB t v) = c.ts.any (fun t => oneB t v) := by
    rw [Bool.eq_iff_iff, List.any_eq_true, List.any_eq_true]
    constructor
    · rintro ⟨t, ht, h⟩; exact ⟨t, ht, by rw [← holds_one (uSndB_mem hc ht) sv]; exact h⟩
    · rintro ⟨t, ht, h⟩; exact ⟨t, ht, by rw [holds_one (uSndB_mem hc ht) sv]; exact h⟩
  unfold refAllB allB
  rw [h]
  by_cases ha : c.any = true
  · unfold uSndB at hc
    rw [if_pos ha] at hc ⊢
    simp only [Bool.and_eq_true, Bool.not_eq_true', decide_eq_true_eq] at hc
    have : c.ts = [] := List.length_eq_zero_iff.mp hc.2
    rw [this, ha, hc.1]; rfl
  · rw [if_neg ha]
    have : c.any = false := by simpa using ha
    rw [this]
    cases c.ts.any (fun t => oneB t v) <;> cases c.neg <;> rfl
end Go.Proofs.YtogegempbjpdiaaDoor
