/- Spans of whole numbers: the plain laws of joining. -/
import Derived.Below
set_option linter.unusedSimpArgs false
set_option linter.unusedVariables false
namespace Go.Proofs.Ythdbbefiebolbaa

abbrev Sp := Int × Int
def MX : Int := 9223372036854775807
def okS (s : Sp) : Bool := decide (s.1 ≤ s.2)
def hasS (s : Sp) (n : Int) : Bool := decide (s.1 ≤ n) && decide (n ≤ s.2)
def inS (l : List Sp) (n : Int) : Bool := l.any (fun s => hasS s n)
structure SpWf (s : Sp) : Prop where
  l1 : -9223372036854775808 ≤ s.1
  l2 : s.1 ≤ 9223372036854775807
  h1 : -9223372036854775808 ≤ s.2
  h2 : s.2 ≤ 9223372036854775807
/-- does a span touch the one before it? -/
def glueB (c s : Sp) : Bool := c.2 == MX || decide (s.1 ≤ c.2 + 1)
def joinL : Sp → List Sp → List Sp
  | c, [] => [c]
  | c, s :: r => if glueB c s = true then joinL (c.1, max c.2 s.2) r else c :: joinL s r
def joinAll : List Sp → List Sp
  | [] => []
  | s :: r => joinL s r
theorem joinL_yes {c s : Sp} {r : List Sp} (h : glueB c s = true) : joinL c (s :: r) = joinL (c.1, max c.2 s.2) r := if_pos h
theorem joinL_no {c s : Sp} {r : List Sp} (h : glueB c s = false) : joinL c (s :: r) = c :: joinL s r := if_neg (by rw [h]; simp)
theorem hasS_iff {s : Sp} {n : Int} : hasS s n = true ↔ s.1 ≤ n ∧ n ≤ s.2 := by simp [hasS]
theorem inS_cons (s : Sp) (l : List Sp) (n : Int) : inS (s :: l) n = (hasS s n || inS l n) := rfl
theorem glue_has {c s : Sp} (hc : c.1 ≤ s.1) (hs : s.1 ≤ s.2) (hx : s.2 ≤ 9223372036854775807) (hg : glueB c s = true) (n : Int) : hasS (c.1, max c.2 s.2) n = (hasS c n || hasS s n) := by
  rw [Bool.eq_iff_iff, Bool.or_eq_true, hasS_iff, hasS_iff, hasS_iff]
  have hg' : c.2 = MX ∨ s.1 ≤ c.2 + 1 := by simpa [glueB] using hg
  unfold MX at hg'
  show c.1 ≤ n ∧ n ≤ max c.2 s.2 ↔ _
  omega
theorem joinL_in : ∀ (r : List Sp) (c : Sp), c.1 ≤ c.2 → SpWf c → (∀ s ∈ r, c.1 ≤ s.1 ∧ s.1 ≤ s.2 ∧ SpWf s) → r.Pairwise (fun a b => a.1 ≤ b.1) → ∀ n, inS (joinL c r) n = inS (c :: r) n
  | [], c, _, _, _, _, n => rfl
  | s :: r, c, hc, hw, hr, hp, n => by
    have h1 := hr s (by simp)
    have hp' := List.pairwise_cons.1 hp
    cases hg : glueB c s
    · rw [joinL_no hg, inS_cons, inS_cons, joinL_in r s h1.2.1 h1.2.2 (fun t ht => ⟨hp'.1 t ht, (hr t (List.mem_cons_of_mem _ ht)).2⟩) hp'.2 n]
    · have hw2 := h1.2.2
      rw [joinL_yes hg, joinL_in r (c.1, max c.2 s.2) (by show c.1 ≤ max c.2 s.2; omega) ⟨hw.l1, hw.l2, by show _ ≤ max c.2 s.2; have := hw.h1; omega, by show max c.2 s.2 ≤ _; have := hw.h2; have := hw2.h2; omega⟩
        (fun t ht => ⟨(hr t (List.mem_cons_of_mem _ ht)).1, (hr t (List.mem_cons_of_mem _ ht)).2⟩) hp'.2 n]
      rw [inS_cons, inS_cons, inS_cons, glue_has h1.1 h1.2.1 hw2.h2 hg n, Bool.or_assoc]
/-- in order: each with a number, and a number between each two -/
def ordL : List Sp → Prop
  | [] => True
  | [s] => s.1 ≤ s.2
  | s :: t :: r => s.1 ≤ s.2 ∧ s.2 + 1 < t.1 ∧ ordL (t :: r)
theorem joinL_ord : ∀ (r : List Sp) (c : Sp), c.1 ≤ c.2 → (∀ s ∈ r, s.1 ≤ s.2) → ordL (joinL c r) ∧ ∃ t q, joinL c r = t :: q ∧ t.1 = c.1
  | [], c, hc, _ => ⟨hc, c, [], rfl, rfl⟩
  | s :: r, c, hc, hr => by
    have h1 := hr s (by simp)
    have hr' : ∀ t ∈ r, t.1 ≤ t.2 := fun t ht => hr t (List.mem_cons_of_mem _ ht)
    cases hg : glueB c s
    · rw [joinL_no hg]
      obtain ⟨ho, t, q, e, ht⟩ := joinL_ord r s h1 hr'
      have hg' : ¬ (c.2 = MX ∨ s.1 ≤ c.2 + 1) := by
        intro h
        have : glueB c s = true := by simpa [glueB] using h
        rw [hg] at this; cases this
      refine ⟨?_, c, _, rfl, rfl⟩
      rw [e] at ho ⊢
      exact ⟨hc, by omega, ho⟩
    · rw [joinL_yes hg]
      obtain ⟨ho, t, q, e, ht⟩ := joinL_ord r (c.1, max c.2 s.2) (by show c.1 ≤ max c.2 s.2; omega) hr'
      exact ⟨ho, t, q, e, ht⟩
theorem joinL_wf : ∀ (r : List Sp) (c : Sp), SpWf c → (∀ s ∈ r, SpWf s) → ∀ t ∈ joinL c r, SpWf t
  | [], c, hc, _, t, ht => by
    have : t = c := by simpa [joinL] using ht
    rw [this]; exact hc
  | s :: r, c, hc, hr, t, ht => by
    have h1 := hr s (by simp)
    have hr' : ∀ t ∈ r, SpWf t := fun t ht => hr t (List.mem_cons_of_mem _ ht)
    cases hg : glueB c s
    · rw [joinL_no hg] at ht
      rcases List.mem_cons.1 ht with rfl | ht
      · exact hc
      · exact joinL_wf r s h1 hr' t ht
    · rw [joinL_yes hg] at ht
      exact joinL_wf r (c.1, max c.2 s.2) ⟨hc.l1, hc.l2, by show _ ≤ max c.2 s.2; have := hc.h1; omega, by show max c.2 s.2 ≤ _; have := hc.h2; have := h1.h2; omega⟩ hr' t ht
theorem joinL_len : ∀ (r : List Sp) (c : Sp), (joinL c r).length ≤ r.length + 1
  | [], _ => by simp [joinL]
  | s :: r, c => by
    cases hg : glueB c s
    · rw [joinL_no hg]; have := joinL_len r s; simp; omega
    · rw [joinL_yes hg]; have := joinL_len r (c.1, max c.2 s.2); simp; omega
/-- what Join hands back -/
structure JoinOf (l R : List Sp) : Prop where
  wf : ∀ s ∈ R, SpWf s
  ord : ordL R
  same : ∀ n, inS R n = inS l n
  len : R.length ≤ l.length
theorem inS_perm {l l' : List Sp} (h : l.Perm l') (n : Int) : inS l n = inS l' n := by
  unfold inS
  rw [Bool.eq_iff_iff, List.any_eq_true, List.any_eq_true]
  exact ⟨fun ⟨x, hx, hh⟩ => ⟨x, h.mem_iff.1 hx, hh⟩, fun ⟨x, hx, hh⟩ => ⟨x, h.mem_iff.2 hx, hh⟩⟩
theorem inS_filter (l : List Sp) (n : Int) : inS (l.filter okS) n = inS l n := by
  unfold inS
  rw [Bool.eq_iff_iff, List.any_eq_true, List.any_eq_true]
  refine ⟨fun ⟨x, hx, hh⟩ => ⟨x, (List.mem_filter.1 hx).1, hh⟩, fun ⟨x, hx, hh⟩ => ⟨x, List.mem_filter.2 ⟨hx, ?_⟩, hh⟩⟩
  have := hasS_iff.1 hh
  simp [okS]; omega
theorem join_of {l L : List Sp} (hw : ∀ s ∈ l, SpWf s) (hp : L.Perm (l.filter okS)) (hs : L.Pairwise (fun a b => a.1 ≤ b.1)) : JoinOf l (joinAll L) := by
  have hm : ∀ s ∈ L, s ∈ l ∧ s.1 ≤ s.2 := fun s h => by
    have := List.mem_filter.1 (hp.mem_iff.1 h)
    exact ⟨this.1, by simpa [okS] using this.2⟩
  have hlen : L.length ≤ l.length := by rw [hp.length_eq]; exact List.length_filter_le _ _
  cases L with
  | nil =>
    refine ⟨by simp [joinAll], trivial, fun n => ?_, by simp [joinAll]⟩
    rw [← inS_filter l n, ← inS_perm hp n]; rfl
  | cons c r =>
    have hc := hm c (by simp)
    have hp' := List.pairwise_cons.1 hs
    have hr : ∀ s ∈ r, s ∈ l ∧ s.1 ≤ s.2 := fun s h => hm s (List.mem_cons_of_mem _ h)
    refine ⟨joinL_wf r c (hw c hc.1) (fun s h => hw s (hr s h).1), (joinL_ord r c hc.2 (fun s h => (hr s h).2)).1, fun n => ?_, Nat.le_trans (joinL_len r c) (by simpa using hlen)⟩
    show inS (joinL c r) n = _
    rw [joinL_in r c hc.2 (hw c hc.1) (fun s h => ⟨hp'.1 s h, (hr s h).2, hw s (hr s h).1⟩) hp'.2 n, inS_perm hp n, inS_filter]
theorem ordL_get : ∀ (l : List Sp), ordL l → ∀ i (h : i < l.length), (l[i]'h).1 ≤ (l[i]'h).2 ∧ (∀ h2 : i + 1 < l.length, (l[i]'h).2 + 1 < (l[i + 1]'h2).1)
  | [], _, i, h => by simp at h
  | [s], ho, i, h => by
    have : i = 0 := by simp at h; omega
    subst this
    exact ⟨ho, fun h2 => by simp at h2⟩
  | s :: t :: r, ho, i, h => by
    cases i with
    | zero => exact ⟨ho.1, fun _ => ho.2.1⟩
    | succ i =>
      have := ordL_get (t :: r) ho.2.2 i (by simpa using h)
      exact ⟨this.1, fun h2 => this.2 (by simpa using h2)⟩
end Go.Proofs.Ythdbbefiebolbaa
