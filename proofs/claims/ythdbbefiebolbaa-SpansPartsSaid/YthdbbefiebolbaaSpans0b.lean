/- Spans in order: one list alone has given numbers. -/
import Derived.Test.YthdbbefiebolbaaSpans0
set_option linter.unusedSimpArgs false
set_option linter.unusedVariables false
namespace Go.Proofs.Ythdbbefiebolbaa

theorem ordL_head {s : Sp} {r : List Sp} (h : ordL (s :: r)) : s.1 ≤ s.2 := by
  cases r with
  | nil => exact h
  | cons t r => exact h.1
theorem ordL_tail {s : Sp} {r : List Sp} (h : ordL (s :: r)) : ordL r := by
  cases r with
  | nil => trivial
  | cons t r => exact h.2.2
theorem ordL_far : ∀ (r : List Sp) (s : Sp), ordL (s :: r) → ∀ t ∈ r, s.2 + 1 < t.1
  | [], _, _, t, ht => by cases ht
  | u :: r, s, h, t, ht => by
    rcases List.mem_cons.1 ht with rfl | ht
    · exact h.2.1
    · have h1 := ordL_far r u h.2.2 t ht
      have h2 := h.2.1
      have h3 := ordL_head h.2.2
      omega
theorem inS_far {s : Sp} {r : List Sp} (h : ordL (s :: r)) {n : Int} (hn : n ≤ s.2 + 1) : inS r n = false := by
  unfold inS
  rw [List.any_eq_false]
  intro t ht hh
  have h1 := ordL_far r s h t ht
  have h2 := hasS_iff.1 hh
  omega
theorem ord_uniq : ∀ (a b : List Sp), ordL a → ordL b → (∀ n, inS a n = inS b n) → a = b
  | [], [], _, _, _ => rfl
  | [], t :: b, _, hb, h => by
    have h1 := h t.1
    have h2 := ordL_head hb
    rw [inS_cons, show hasS t t.1 = true from hasS_iff.2 ⟨Int.le_refl _, h2⟩] at h1
    simp [inS] at h1
  | s :: a, [], ha, _, h => by
    have h1 := h s.1
    have h2 := ordL_head ha
    rw [inS_cons, show hasS s s.1 = true from hasS_iff.2 ⟨Int.le_refl _, h2⟩] at h1
    simp [inS] at h1
  | s :: a, t :: b, ha, hb, h => by
    have hs := ordL_head ha
    have ht := ordL_head hb
    have low : ∀ {u : Sp} {r : List Sp} {n : Int}, ordL (u :: r) → inS (u :: r) n = true → u.1 ≤ n := by
      intro u r n ho hi
      rw [inS_cons, Bool.or_eq_true] at hi
      rcases hi with hi | hi
      · exact (hasS_iff.1 hi).1
      · rcases Int.lt_or_le (u.2 + 1) n with h1 | h1
        · have := ordL_head ho; omega
        · rw [inS_far ho h1] at hi; cases hi
    have m1 : inS (s :: a) s.1 = true := by rw [inS_cons, show hasS s s.1 = true from hasS_iff.2 ⟨Int.le_refl _, hs⟩]; rfl
    have m2 : inS (t :: b) t.1 = true := by rw [inS_cons, show hasS t t.1 = true from hasS_iff.2 ⟨Int.le_refl _, ht⟩]; rfl
    have e1 : s.1 = t.1 := by
      have h1 := low hb ((h s.1).symm.trans m1)
      have h2 := low ha ((h t.1).trans m2)
      omega
    have e2 : s.2 = t.2 := by
      rcases Int.lt_trichotomy s.2 t.2 with hlt | heq | hgt
      · have h1 : inS (t :: b) (s.2 + 1) = true := by rw [inS_cons, show hasS t (s.2 + 1) = true from hasS_iff.2 ⟨by omega, by omega⟩]; rfl
        have h2 : inS (s :: a) (s.2 + 1) = false := by
          rw [inS_cons, inS_far ha (Int.le_refl _), Bool.or_false]
          rw [Bool.eq_false_iff]
          intro h; have := (hasS_iff.1 h).2; omega
        rw [h, h1] at h2; cases h2
      · exact heq
      · have h1 : inS (s :: a) (t.2 + 1) = true := by rw [inS_cons, show hasS s (t.2 + 1) = true from hasS_iff.2 ⟨by omega, by omega⟩]; rfl
        have h2 : inS (t :: b) (t.2 + 1) = false := by
          rw [inS_cons, inS_far hb (Int.le_refl _), Bool.or_false]
          rw [Bool.eq_false_iff]
          intro h; have := (hasS_iff.1 h).2; omega
        rw [← h, h1] at h2; cases h2
    have est : s = t := Prod.ext e1 e2
    subst est
    have : a = b := ord_uniq a b (ordL_tail ha) (ordL_tail hb) (fun n => by
      rcases Int.lt_or_le (s.2 + 1) n with h1 | h1
      · have h2 := h n
        have h3 : hasS s n = false := by
          rw [Bool.eq_false_iff]
          intro h; have := (hasS_iff.1 h).2; omega
        rw [inS_cons, inS_cons, h3, Bool.false_or, Bool.false_or] at h2
        exact h2
      · rw [inS_far ha h1, inS_far hb h1])
    rw [this]
end Go.Proofs.Ythdbbefiebolbaa
