import Derived.Below
/- Spans of whole numbers: the plain laws of joining. -/
set_option linter.unusedSimpArgs false
set_option linter.unusedVariables false
namespace Go.Proofs.YtankkadnhdfpfaaGreatDoor.Sp

abbrev Sp := Int × Int
def MX : Int := 9223372036854775807
def okS (s : Sp) : Bool := decide (s.1 ≤ s.2)
def hasS (s : Sp) (n : Int) : Bool := decide (s.1 ≤ n) && decide (n ≤ s.2)
def inS (l : List Sp) (n : Int) : Bool := l.any (fun s => hasS s n)
structure SpWf (s : Sp) : Prop where
  l1 : -9223372036854775808 ≤ s.1
  l2 : s.1 ≤ 9223372036854775807
  h1 : -9223372036854775808 ≤ s.2
  h2 : s.2 ≤ 9223372036854775807
def glueB (c s : Sp) : Bool := c.2 == MX || decide (s.1 ≤ c.2 + 1)
def joinL : Sp → List Sp → List Sp
  | c, [] => [c]
  | c, s :: r => if glueB c s = true then joinL (c.1, max c.2 s.2) r else c :: joinL s r
def joinAll : List Sp → List Sp
  | [] => []
  | s :: r => joinL s r
theorem joinL_yes {c s : Sp} {r : List Sp} (h : glueB c s = true) : joinL c (s :: r) = joinL (c.1, max c.2 s.2) r := if_pos h
theorem joinL_no {c s : Sp} {r : List Sp} (h : glueB c s = false) : joinL c (s :: r) = c :: joinL s r := if_neg (by rw [h]; simp)
theorem hasS_iff {s : Sp} {n : Int} : hasS s n = true ↔ s.1 ≤ n ∧ n ≤ s.2 := by simp [hasS]
theorem inS_cons (s : Sp) (l : List Sp) (n : Int) : inS (s :: l) n = (hasS s n || inS l n) := rfl
theorem glue_has {c s : Sp} (hc : c.1 ≤ s.1) (hs : s.1 ≤ s.2) (hx : s.2 ≤ 9223372036854775807) (hg : glueB c s = true) (n : Int) : hasS (c.1, max c.2 s.2) n = (hasS c n || hasS s n) := by
  rw [Bool.eq_iff_iff, Bool.or_eq_true, hasS_iff, hasS_iff, hasS_iff]
  have hg' : c.2 = MX ∨ s.1 ≤ c.2 + 1 := by simpa [glueB] using hg
  unfold MX at hg'
  show c.1 ≤ n ∧ n ≤ max c.2 s.2 ↔ _
  omega
theorem joinL_in : ∀ (r : List Sp) (c : Sp), c.1 ≤ c.2 → SpWf c → (∀ s ∈ r, c.1 ≤ s.1 ∧ s.1 ≤ s.2 ∧ SpWf s) → r.Pairwise (fun a b => a.1 ≤ b.1) → ∀ n, inS (joinL c r) n = inS (c :: r) n
  | [], c, _, _, _, _, n => rfl
  | s :: r, c, hc, hw, hr, hp, n => by
    have h1 := hr s (by simp)
    have hp' := List.pairwise_cons.1 hp
    cases hg : glueB c s
    · rw [joinL_no hg, inS_cons, inS_cons, joinL_in r s h1.2.1 h1.2.2 (fun t ht => ⟨hp'.1 t ht, (hr t (List.mem_cons_of_mem _ ht)).2⟩) hp'.2 n]
    · have hw2 := h1.2.2
      rw [joinL_yes hg, joinL_in r (c.1, max c.2 s.2) (by show c.1 ≤ max c.2 s.2; omega) ⟨hw.l1, hw.l2, by show _ ≤ max c.2 s.2; have := hw.h1; omega, by show max c.2 s.2 ≤ _; have := hw.h2; have := hw2.h2; omega⟩
        (fun t ht => ⟨(hr t (List.mem_cons_of_mem _ ht)).1, (hr t (List.mem_cons_of_mem _ ht)).2⟩) hp'.2 n]
      rw [inS_cons, inS_cons, inS_cons, glue_has h1.1 h1.2.1 hw2.h2 hg n, Bool.or_assoc]
def ordL : List Sp → Prop
  | [] => True
  | [s] => s.1 ≤ s.2
  | s :: t :: r => s.1 ≤ s.2 ∧ s.2 + 1 < t.1 ∧ ordL (t :: r)
theorem joinL_ord : ∀ (r : List Sp) (c : Sp), c.1 ≤ c.2 → (∀ s ∈ r, s.1 ≤ s.2) → ordL (joinL c r) ∧ ∃ t q, joinL c r = t :: q ∧ t.1 = c.1
  | [], c, hc, _ => ⟨hc, c, [], rfl, rfl⟩
  | s :: r, c, hc, hr => by
    have h1 := hr s (by simp)
    have hr' : ∀ t ∈ r, t.1 ≤ t.2 := fun t ht => hr t (List.mem_cons_of_mem _ ht)
    cases hg : glueB c s
    · rw [joinL_no hg]
      obtain ⟨ho, t, q, e, ht⟩ := joinL_ord r s h1 hr'
      have hg' : ¬ (c.2 = MX ∨ s.1 ≤ c.2 + 1) := by
        intro h
        have : glueB c s = true := by simpa [glueB] using h
        rw [hg] at this; cases this
      refine ⟨?_, c, _, rfl, rfl⟩
      rw [e] at ho ⊢
      exact ⟨hc, by omega, ho⟩
    · rw [joinL_yes hg]
      obtain ⟨ho, t, q, e, ht⟩ := joinL_ord r (c.1, max c.2 s.2) (by show c.1 ≤ max c.2 s.2; omega) hr'
      exact ⟨ho, t, q, e, ht⟩
theorem joinL_wf : ∀ (r : List Sp) (c : Sp), SpWf c → (∀ s ∈ r, SpWf s) → ∀ t ∈ joinL c r, SpWf t
  | [], c, hc, _, t, ht => by
    have : t = c := by simpa [joinL] using ht
    rw [this]; exact hc
  | s :: r, c, hc, hr, t, ht => by
    have h1 := hr s (by simp)
    have hr' : ∀ t ∈ r, SpWf t := fun t ht => hr t (List.mem_cons_of_mem _ ht)
    cases hg : glueB c s
    · rw [joinL_no hg] at ht
      rcases List.mem_cons.1 ht with rfl | ht
      · exact hc
      · exact joinL_wf r s h1 hr' t ht
    · rw [joinL_yes hg] at ht
      exact joinL_wf r (c.1, max c.2 s.2) ⟨hc.l1, hc.l2, by show _ ≤ max c.2 s.2; have := hc.h1; omega, by show max c.2 s.2 ≤ _; have := hc.h2; have := h1.h2; omega⟩ hr' t ht
theorem joinL_len : ∀ (r : List Sp) (c : Sp), (joinL c r).length ≤ r.length + 1
  | [], _ => by simp [joinL]
  | s :: r, c => by
    cases hg : glueB c s
    · rw [joinL_no hg]; have := joinL_len r s; simp; omega
    · rw [joinL_yes hg]; have := joinL_len r (c.1, max c.2 s.2); simp; omega
structure JoinOf (l R : List Sp) : Prop where
  wf : ∀ s ∈ R, SpWf s
  ord : ordL R
  same : ∀ n, inS R n = inS l n
  len : R.length ≤ l.length
theorem inS_perm {l l' : List Sp} (h : l.Perm l') (n : Int) : inS l n = inS l' n := by
  unfold inS
  rw [Bool.eq_iff_iff, List.any_eq_true, List.any_eq_true]
  exact ⟨fun ⟨x, hx, hh⟩ => ⟨x, h.mem_iff.1 hx, hh⟩, fun ⟨x, hx, hh⟩ => ⟨x, h.mem_iff.2 hx, hh⟩⟩
theorem inS_filter (l : List Sp) (n : Int) : inS (l.filter okS) n = inS l n := by
  unfold inS
  rw [Bool.eq_iff_iff, List.any_eq_true, List.any_eq_true]
  refine ⟨fun ⟨x, hx, hh⟩ => ⟨x, (List.mem_filter.1 hx).1, hh⟩, fun ⟨x, hx, hh⟩ => ⟨x, List.mem_filter.2 ⟨hx, ?_⟩, hh⟩⟩
  have := hasS_iff.1 hh
  simp [okS]; omega
theorem join_of {l L : List Sp} (hw : ∀ s ∈ l, SpWf s) (hp : L.Perm (l.filter okS)) (hs : L.Pairwise (fun a b => a.1 ≤ b.1)) : JoinOf l (joinAll L) := by
  have hm : ∀ s ∈ L, s ∈ l ∧ s.1 ≤ s.2 := fun s h => by
    have := List.mem_filter.1 (hp.mem_iff.1 h)
    exact ⟨this.1, by simpa [okS] using this.2⟩
  have hlen : L.length ≤ l.length := by rw [hp.length_eq]; exact List.length_filter_le _ _
  cases L with
  | nil =>
    refine ⟨by simp [joinAll], trivial, fun n => ?_, by simp [joinAll]⟩
    rw [← inS_filter l n, ← inS_perm hp n]; rfl
  | cons c r =>
    have hc := hm c (by simp)
    have hp' := List.pairwise_cons.1 hs
    have hr : ∀ s ∈ r, s ∈ l ∧ s.1 ≤ s.2 := fun s h => hm s (List.mem_cons_of_mem _ h)
    refine ⟨joinL_wf r c (hw c hc.1) (fun s h => hw s (hr s h).1), (joinL_ord r c hc.2 (fun s h => (hr s h).2)).1, fun n => ?_, Nat.le_trans (joinL_len r c) (by simpa using hlen)⟩
    show inS (joinL c r) n = _
    rw [joinL_in r c hc.2 (hw c hc.1) (fun s h => ⟨hp'.1 s h, (hr s h).2, hw s (hr s h).1⟩) hp'.2 n, inS_perm hp n, inS_filter]
theorem ordL_get : ∀ (l : List Sp), ordL l → ∀ i (h : i < l.length), (l[i]'h).1 ≤ (l[i]'h).2 ∧ (∀ h2 : i + 1 < l.length, (l[i]'h).2 + 1 < (l[i + 1]'h2).1)
  | [], _, i, h => by simp at h
  | [s], ho, i, h => by
    have : i = 0 := by simp at h; omega
    subst this
    exact ⟨ho, fun h2 => by simp at h2⟩
  | s :: t :: r, ho, i, h => by
    cases i with
    | zero => exact ⟨ho.1, fun _ => ho.2.1⟩
    | succ i =>
      have := ordL_get (t :: r) ho.2.2 i (by simpa using h)
      exact ⟨this.1, fun h2 => this.2 (by simpa using h2)⟩
end Go.Proofs.YtankkadnhdfpfaaGreatDoor.Sp

/- Spans in order: one list alone has given numbers. -/
set_option linter.unusedSimpArgs false
set_option linter.unusedVariables false
namespace Go.Proofs.YtankkadnhdfpfaaGreatDoor.Sp

theorem ordL_head {s : Sp} {r : List Sp} (h : ordL (s :: r)) : s.1 ≤ s.2 := by
  cases r with
  | nil => exact h
  | cons t r => exact h.1
theorem ordL_tail {s : Sp} {r : List Sp} (h : ordL (s :: r)) : ordL r := by
  cases r with
  | nil => trivial
  | cons t r => exact h.2.2
theorem ordL_far : ∀ (r : List Sp) (s : Sp), ordL (s :: r) → ∀ t ∈ r, s.2 + 1 < t.1
  | [], _, _, t, ht => by cases ht
  | u :: r, s, h, t, ht => by
    rcases List.mem_cons.1 ht with rfl | ht
    · exact h.2.1
    · have h1 := ordL_far r u h.2.2 t ht
      have h2 := h.2.1
      have h3 := ordL_head h.2.2
      omega
theorem inS_far {s : Sp} {r : List Sp} (h : ordL (s :: r)) {n : Int} (hn : n ≤ s.2 + 1) : inS r n = false := by
  unfold inS
  rw [List.any_eq_false]
  intro t ht hh
  have h1 := ordL_far r s h t ht
  have h2 := hasS_iff.1 hh
  omega
theorem ord_uniq : ∀ (a b : List Sp), ordL a → ordL b → (∀ n, inS a n = inS b n) → a = b
  | [], [], _, _, _ => rfl
  | [], t :: b, _, hb, h => by
    have h1 := h t.1
    have h2 := ordL_head hb
    rw [inS_cons, show hasS t t.1 = true from hasS_iff.2 ⟨Int.le_refl _, h2⟩] at h1
    simp [inS] at h1
  | s :: a, [], ha, _, h => by
    have h1 := h s.1
    have h2 := ordL_head ha
    rw [inS_cons, show hasS s s.1 = true from hasS_iff.2 ⟨Int.le_refl _, h2⟩] at h1
    simp [inS] at h1
  | s :: a, t :: b, ha, hb, h => by
    have hs := ordL_head ha
    have ht := ordL_head hb
    have low : ∀ {u : Sp} {r : List Sp} {n : Int}, ordL (u :: r) → inS (u :: r) n = true → u.1 ≤ n := by
      intro u r n ho hi
      rw [inS_cons, Bool.or_eq_true] at hi
      rcases hi with hi | hi
      · exact (hasS_iff.1 hi).1
      · rcases Int.lt_or_le (u.2 + 1) n with h1 | h1
        · have := ordL_head ho; omega
        · rw [inS_far ho h1] at hi; cases hi
    have m1 : inS (s :: a) s.1 = true := by rw [inS_cons, show hasS s s.1 = true from hasS_iff.2 ⟨Int.le_refl _, hs⟩]; rfl
    have m2 : inS (t :: b) t.1 = true := by rw [inS_cons, show hasS t t.1 = true from hasS_iff.2 ⟨Int.le_refl _, ht⟩]; rfl
    have e1 : s.1 = t.1 := by
      have h1 := low hb ((h s.1).symm.trans m1)
      have h2 := low ha ((h t.1).trans m2)
      omega
    have e2 : s.2 = t.2 := by
      rcases Int.lt_trichotomy s.2 t.2 with hlt | heq | hgt
      · have h1 : inS (t :: b) (s.2 + 1) = true := by rw [inS_cons, show hasS t (s.2 + 1) = true from hasS_iff.2 ⟨by omega, by omega⟩]; rfl
        have h2 : inS (s :: a) (s.2 + 1) = false := by
          rw [inS_cons, inS_far ha (Int.le_refl _), Bool.or_false]
          rw [Bool.eq_false_iff]
          intro h; have := (hasS_iff.1 h).2; omega
        rw [h, h1] at h2; cases h2
      · exact heq
      · have h1 : inS (s :: a) (t.2 + 1) = true := by rw [inS_cons, show hasS s (t.2 + 1) = true from hasS_iff.2 ⟨by omega, by omega⟩]; rfl
        have h2 : inS (t :: b) (t.2 + 1) = false := by
          rw [inS_cons, inS_far hb (Int.le_refl _), Bool.or_false]
          rw [Bool.eq_false_iff]
          intro h; have := (hasS_iff.1 h).2; omega
        rw [← h, h1] at h2; cases h2
    have est : s = t := Prod.ext e1 e2
    subst est
    have : a = b := ord_uniq a b (ordL_tail ha) (ordL_tail hb) (fun n => by
      rcases Int.lt_or_le (s.2 + 1) n with h1 | h1
      · have h2 := h n
        have h3 : hasS s n = false := by
          rw [Bool.eq_false_iff]
          intro h; have := (hasS_iff.1 h).2; omega
        rw [inS_cons, inS_cons, h3, Bool.false_or, Bool.false_or] at h2
        exact h2
      · rw [inS_far ha h1, inS_far hb h1])
    rw [this]
end Go.Proofs.YtankkadnhdfpfaaGreatDoor.Sp

/- Spans: the plain laws of meeting, cutting and nearness. -/
set_option linter.unusedSimpArgs false
set_option linter.unusedVariables false
namespace Go.Proofs.YtankkadnhdfpfaaGreatDoor.Sp

theorem inS_append (a b : List Sp) (n : Int) : inS (a ++ b) n = (inS a n || inS b n) := List.any_append
theorem inS_nil (n : Int) : inS [] n = false := rfl
theorem joinOf_uniq {l l' R R' : List Sp} (h : JoinOf l R) (h' : JoinOf l' R') (he : ∀ n, inS l n = inS l' n) : R = R' :=
  ord_uniq R R' h.ord h'.ord (fun n => by rw [h.same, h'.same, he])

def meetS (x y : Sp) : Sp := (max x.1 y.1, min x.2 y.2)
theorem meetS_has (x y : Sp) (n : Int) : hasS (meetS x y) n = (hasS x n && hasS y n) := by
  rw [Bool.eq_iff_iff, Bool.and_eq_true, hasS_iff, hasS_iff, hasS_iff]
  unfold meetS
  show max x.1 y.1 ≤ n ∧ n ≤ min x.2 y.2 ↔ _
  omega
theorem meetS_wf {x y : Sp} (hx : SpWf x) (hy : SpWf y) : SpWf (meetS x y) := by
  have h1 := hx.l1; have h2 := hx.l2; have h3 := hx.h1; have h4 := hx.h2
  have k1 := hy.l1; have k2 := hy.l2; have k3 := hy.h1; have k4 := hy.h2
  refine ⟨?_, ?_, ?_, ?_⟩
  · show _ ≤ max x.1 y.1; omega
  · show max x.1 y.1 ≤ _; omega
  · show _ ≤ min x.2 y.2; omega
  · show min x.2 y.2 ≤ _; omega
def meetRow (x : Sp) (ys : List Sp) : List Sp := ys.map (meetS x)
theorem meetRow_in (x : Sp) : ∀ (ys : List Sp) (n : Int), inS (meetRow x ys) n = (hasS x n && inS ys n)
  | [], n => by simp [meetRow, inS]
  | y :: r, n => by
    have := meetRow_in x r n
    unfold meetRow at this ⊢
    rw [List.map_cons, inS_cons, inS_cons, this, meetS_has]
    cases hasS x n <;> simp
def meetAll (xs ys : List Sp) : List Sp := xs.flatMap (fun x => meetRow x ys)
theorem meetAll_in (ys : List Sp) : ∀ (xs : List Sp) (n : Int), inS (meetAll xs ys) n = (inS xs n && inS ys n)
  | [], n => by simp [meetAll, inS]
  | x :: r, n => by
    have := meetAll_in ys r n
    unfold meetAll at this ⊢
    rw [List.flatMap_cons, inS_append, this, inS_cons, meetRow_in]
    cases hasS x n <;> cases inS r n <;> simp
theorem meetAll_wf {xs ys : List Sp} (hx : ∀ s ∈ xs, SpWf s) (hy : ∀ s ∈ ys, SpWf s) : ∀ s ∈ meetAll xs ys, SpWf s := by
  intro s hs
  obtain ⟨x, h1, h2⟩ := List.mem_flatMap.1 hs
  obtain ⟨y, h3, rfl⟩ := List.mem_map.1 h2
  exact meetS_wf (hx x h1) (hy y h3)
theorem meetAll_len (ys : List Sp) : ∀ (xs : List Sp), (meetAll xs ys).length = xs.length * ys.length
  | [] => by simp [meetAll]
  | x :: r => by
    have := meetAll_len ys r
    unfold meetAll at this ⊢
    rw [List.flatMap_cons, List.length_append, this, List.length_cons, Nat.succ_mul]
    simp [meetRow]; omega

def cutS : Sp → List Sp → List Sp
  | x, [] => [x]
  | x, y :: r =>
    if (decide (y.2 < x.1) || decide (x.2 < y.1)) = true then cutS x r
    else (if x.1 < y.1 then [(x.1, y.1 - 1)] else []) ++ (if x.2 ≤ y.2 then [] else cutS (y.2 + 1, x.2) r)
theorem cutS_in : ∀ (ys : List Sp) (x : Sp) (n : Int), ordL ys → inS (cutS x ys) n = (hasS x n && !inS ys n)
  | [], x, n, _ => by simp [cutS, inS]
  | y :: r, x, n, ho => by
    have hr := ordL_tail ho
    have hh := ordL_head ho
    have hfar : n ≤ y.2 + 1 → inS r n = false := fun h => inS_far ho h
    rw [inS_cons]
    unfold cutS
    split
    · rename_i h
      rw [cutS_in r x n hr]
      have : hasS x n = true → hasS y n = false := by
        intro hx
        have h1 := hasS_iff.1 hx
        cases hy : hasS y n
        · rfl
        · have h2 := hasS_iff.1 hy
          simp at h
          omega
      cases hx : hasS x n
      · rfl
      · rw [this hx]; rfl
    · rename_i h
      simp only [Bool.not_eq_true, Bool.or_eq_false_iff, decide_eq_false_iff_not] at h
      rw [inS_append]
      have e1 : inS (if x.1 < y.1 then [(x.1, y.1 - 1)] else []) n = (decide (x.1 ≤ n) && decide (n < y.1)) := by
        split
        · rw [Bool.eq_iff_iff]; simp [inS, hasS]; omega
        · rename_i h2; rw [Bool.eq_iff_iff]; simp [inS]; omega
      have e2 : inS (if x.2 ≤ y.2 then [] else cutS (y.2 + 1, x.2) r) n = (decide (y.2 < n) && decide (n ≤ x.2) && !inS r n) := by
        split
        · rename_i h2; rw [Bool.eq_iff_iff]; simp [inS]; omega
        · rw [cutS_in r _ n hr]
          have : hasS (y.2 + 1, x.2) n = (decide (y.2 < n) && decide (n ≤ x.2)) := by
            rw [Bool.eq_iff_iff]; simp [hasS]; try omega
          rw [this]
      rw [e1, e2]
      by_cases hn : n ≤ y.2 + 1
      · rw [hfar hn, Bool.eq_iff_iff]
        simp [hasS]
        omega
      · cases hi : inS r n
        · rw [Bool.eq_iff_iff]; simp [hasS]; omega
        · rw [Bool.eq_iff_iff]; simp [hasS]; omega
theorem cutS_wf : ∀ (ys : List Sp) (x : Sp), SpWf x → (∀ s ∈ ys, SpWf s) → ∀ s ∈ cutS x ys, SpWf s
  | [], x, hx, _, s, hs => by
    have : s = x := by simpa [cutS] using hs
    rw [this]; exact hx
  | y :: r, x, hx, hy, s, hs => by
    have h1 := hx.l1; have h2 := hx.l2; have h3 := hx.h1; have h4 := hx.h2
    have hyw := hy y (by simp)
    have k1 := hyw.l1; have k2 := hyw.l2; have k3 := hyw.h1; have k4 := hyw.h2
    have hr : ∀ s ∈ r, SpWf s := fun t ht => hy t (List.mem_cons_of_mem _ ht)
    unfold cutS at hs
    split at hs
    · exact cutS_wf r x hx hr s hs
    · rcases List.mem_append.1 hs with hs | hs
      · split at hs
        · obtain rfl : s = (x.1, y.1 - 1) := by simpa using hs
          exact ⟨h1, h2, by show _ ≤ y.1 - 1; omega, by show y.1 - 1 ≤ _; omega⟩
        · cases hs
      · split at hs
        · cases hs
        · exact cutS_wf r (y.2 + 1, x.2) ⟨by show _ ≤ y.2 + 1; omega, by show y.2 + 1 ≤ _; omega, h3, h4⟩ hr s hs
theorem cutS_len : ∀ (ys : List Sp) (x : Sp), (cutS x ys).length ≤ ys.length + 1
  | [], x => by simp [cutS]
  | y :: r, x => by
    have a := cutS_len r x
    have b := cutS_len r (y.2 + 1, x.2)
    unfold cutS
    split
    · simp; omega
    · rw [List.length_append]
      split <;> split <;> simp <;> omega
def cutAll (xs ys : List Sp) : List Sp := xs.flatMap (fun x => cutS x ys)
theorem cutAll_in {ys : List Sp} (ho : ordL ys) : ∀ (xs : List Sp) (n : Int), inS (cutAll xs ys) n = (inS xs n && !inS ys n)
  | [], n => by simp [cutAll, inS]
  | x :: r, n => by
    have := cutAll_in ho r n
    unfold cutAll at this ⊢
    rw [List.flatMap_cons, inS_append, this, inS_cons, cutS_in ys x n ho]
    cases hasS x n <;> cases inS r n <;> simp
theorem cutAll_wf {xs ys : List Sp} (hx : ∀ s ∈ xs, SpWf s) (hy : ∀ s ∈ ys, SpWf s) : ∀ s ∈ cutAll xs ys, SpWf s := by
  intro s hs
  obtain ⟨x, h1, h2⟩ := List.mem_flatMap.1 hs
  exact cutS_wf ys x (hx x h1) hy s h2
theorem cutAll_len (ys : List Sp) : ∀ (xs : List Sp), (cutAll xs ys).length ≤ xs.length * (ys.length + 1)
  | [] => by simp [cutAll]
  | x :: r => by
    have := cutAll_len ys r
    have h2 := cutS_len ys x
    unfold cutAll at this ⊢
    rw [List.flatMap_cons, List.length_append, List.length_cons, Nat.succ_mul]
    omega

structure SetOf (f : Int → Bool) (k : Nat) (R : List Sp) : Prop where
  wf : ∀ s ∈ R, SpWf s
  ord : ordL R
  same : ∀ n, inS R n = f n
  len : R.length ≤ k
theorem SetOf.uniq {f g : Int → Bool} {k m : Nat} {R S : List Sp} (h : SetOf f k R) (h' : SetOf g m S) (he : ∀ n, f n = g n) : R = S :=
  ord_uniq R S h.ord h'.ord (fun n => by rw [h.same, h'.same, he])
theorem JoinOf.set {l R : List Sp} (h : JoinOf l R) : SetOf (inS l) l.length R := ⟨h.wf, h.ord, h.same, h.len⟩
theorem ordL_none {R : List Sp} (h : ordL R) (he : ∀ n, inS R n = false) : R = [] := ord_uniq R [] h trivial (fun n => by rw [he]; rfl)

/-! nearness -/
def farI (a b : Int) : Int := max a b - min a b
def clampS (s : Sp) (n : Int) : Int := max s.1 (min n s.2)
def NearOf (l : List Sp) (n m : Int) : Prop := inS l m = true ∧ ∀ k, inS l k = true → farI m n < farI k n ∨ (farI m n = farI k n ∧ m ≤ k)
theorem NearOf.uniq {l l' : List Sp} {n m k : Int} (h : NearOf l n m) (h' : NearOf l' n k) (he : ∀ i, inS l i = inS l' i) : m = k := by
  have a := h.2 k (by rw [he]; exact h'.1)
  have b := h'.2 m (by rw [← he]; exact h.1)
  omega
theorem clamp_has {s : Sp} (h : s.1 ≤ s.2) (n : Int) : hasS s (clampS s n) = true := by
  rw [hasS_iff]; unfold clampS; omega
theorem clamp_near {s : Sp} (n k : Int) (hk : hasS s k = true) : farI (clampS s n) n < farI k n ∨ (farI (clampS s n) n = farI k n ∧ clampS s n ≤ k) := by
  have := hasS_iff.1 hk
  unfold farI clampS; omega
theorem inS_clamp {l : List Sp} {s : Sp} (hs : s ∈ l) (h : s.1 ≤ s.2) (n : Int) : inS l (clampS s n) = true :=
  List.any_eq_true.2 ⟨s, hs, clamp_has h n⟩
theorem nearOf_clamps {l : List Sp} {n m : Int} (hm : inS l m = true) (hall : ∀ s ∈ l, s.1 ≤ s.2 → farI m n < farI (clampS s n) n ∨ (farI m n = farI (clampS s n) n ∧ m ≤ clampS s n)) : NearOf l n m := by
  refine ⟨hm, fun k hk => ?_⟩
  obtain ⟨s, hs, hk⟩ := List.any_eq_true.1 hk
  have h1 := hasS_iff.1 hk
  have a := hall s hs (by omega)
  have b := clamp_near n k hk
  omega
def nearF (n : Int) : List Sp → Option Int → Option Int
  | [], b => b
  | s :: r, none => nearF n r (some (clampS s n))
  | s :: r, some b => nearF n r (if farI (clampS s n) n < farI b n then some (clampS s n) else some b)
theorem nearF_some (n : Int) : ∀ (l : List Sp) (b : Int), ∃ m, nearF n l (some b) = some m
  | [], b => ⟨b, rfl⟩
  | s :: r, b => by
    show ∃ m, nearF n r (if farI (clampS s n) n < farI b n then some (clampS s n) else some b) = some m
    split
    · exact nearF_some n r _
    · exact nearF_some n r _
theorem nearF_best (n : Int) : ∀ (l : List Sp) (b : Int), ordL l → (∀ s ∈ l, b < s.1) → ∀ m, nearF n l (some b) = some m →
    (m = b ∨ inS l m = true) ∧ (farI m n < farI b n ∨ (farI m n = farI b n ∧ m ≤ b)) ∧ ∀ s ∈ l, farI m n < farI (clampS s n) n ∨ (farI m n = farI (clampS s n) n ∧ m ≤ clampS s n)
  | [], b, _, _, m, h => by
    obtain rfl : b = m := by simpa [nearF] using h
    exact ⟨Or.inl rfl, Or.inr ⟨rfl, Int.le_refl _⟩, fun s hs => by cases hs⟩
  | s :: r, b, ho, hb, m, h => by
    have hh := ordL_head ho
    have hr := ordL_tail ho
    have hf := ordL_far r s ho
    have hbs := hb s (by simp)
    have hc := hasS_iff.1 (clamp_has hh n)
    have h' : nearF n r (if farI (clampS s n) n < farI b n then some (clampS s n) else some b) = some m := h
    split at h'
    · rename_i hlt
      have ih := nearF_best n r (clampS s n) hr (fun t ht => by have := hf t ht; omega) m h'
      refine ⟨Or.inr ?_, by omega, fun t ht => ?_⟩
      · rw [inS_cons]
        rcases ih.1 with e | e
        · rw [e, clamp_has hh]; rfl
        · rw [e]; simp
      · rcases List.mem_cons.1 ht with rfl | ht
        · exact ih.2.1
        · exact ih.2.2 t ht
    · rename_i hlt
      have ih := nearF_best n r b hr (fun t ht => by have := hf t ht; omega) m h'
      refine ⟨?_, ih.2.1, fun t ht => ?_⟩
      · rcases ih.1 with e | e
        · exact Or.inl e
        · right; rw [inS_cons, e]; simp
      · rcases List.mem_cons.1 ht with rfl | ht
        · have := ih.2.1; omega
        · exact ih.2.2 t ht
theorem nearF_none {n : Int} {l : List Sp} (h : nearF n l none = none) : l = [] := by
  cases l with
  | nil => rfl
  | cons s r =>
    obtain ⟨m, hm⟩ := nearF_some n r (clampS s n)
    rw [show nearF n (s :: r) none = nearF n r (some (clampS s n)) from rfl, hm] at h
    cases h
theorem nearF_near {n : Int} {l : List Sp} (ho : ordL l) {m : Int} (h : nearF n l none = some m) : NearOf l n m := by
  cases l with
  | nil => cases h
  | cons s r =>
    have hh := ordL_head ho
    have hc := hasS_iff.1 (clamp_has hh n)
    have b := nearF_best n r (clampS s n) (ordL_tail ho) (fun t ht => by have := ordL_far r s ho t ht; omega) m h
    refine nearOf_clamps ?_ (fun t ht _ => ?_)
    · rw [inS_cons]
      rcases b.1 with e | e
      · rw [e, clamp_has hh]; rfl
      · rw [e]; simp
    · rcases List.mem_cons.1 ht with rfl | ht
      · exact b.2.1
      · exact b.2.2 t ht
def ownF (n : Int) : List Sp → Option Int → Option Int
  | [], b => b
  | s :: r, b => ownF n r (if s.2 < s.1 then b else match b with
    | none => some (clampS s n)
    | some m => if farI (clampS s n) n < farI m n ∨ (farI (clampS s n) n = farI m n ∧ clampS s n < m) then some (clampS s n) else some m)
theorem ownF_some (n : Int) : ∀ (l : List Sp) (b m : Int), ownF n l (some b) = some m →
    (m = b ∨ inS l m = true) ∧ (farI m n < farI b n ∨ (farI m n = farI b n ∧ m ≤ b)) ∧ ∀ s ∈ l, s.1 ≤ s.2 → farI m n < farI (clampS s n) n ∨ (farI m n = farI (clampS s n) n ∧ m ≤ clampS s n)
  | [], b, m, h => by
    obtain rfl : b = m := by simpa [ownF] using h
    exact ⟨Or.inl rfl, Or.inr ⟨rfl, Int.le_refl _⟩, fun s hs => by cases hs⟩
  | s :: r, b, m, h => by
    rw [inS_cons]
    have h' : ownF n r (if s.2 < s.1 then some b else if farI (clampS s n) n < farI b n ∨ (farI (clampS s n) n = farI b n ∧ clampS s n < b) then some (clampS s n) else some b) = some m := h
    split at h'
    · have ih := ownF_some n r b m h'
      refine ⟨ih.1.imp id (fun e => by rw [e]; simp), ih.2.1, fun t ht hle => ?_⟩
      rcases List.mem_cons.1 ht with rfl | ht
      · omega
      · exact ih.2.2 t ht hle
    · split at h'
      · have ih := ownF_some n r _ m h'
        refine ⟨Or.inr ?_, by omega, fun t ht hle => ?_⟩
        · rcases ih.1 with e | e
          · rw [e, clamp_has (by omega)]; rfl
          · rw [e]; simp
        · rcases List.mem_cons.1 ht with rfl | ht
          · exact ih.2.1
          · exact ih.2.2 t ht hle
      · have ih := ownF_some n r b m h'
        refine ⟨ih.1.imp id (fun e => by rw [e]; simp), ih.2.1, fun t ht hle => ?_⟩
        rcases List.mem_cons.1 ht with rfl | ht
        · omega
        · exact ih.2.2 t ht hle
theorem ownF_ne (n : Int) : ∀ (l : List Sp) (b : Int), ownF n l (some b) ≠ none
  | [], b => by simp [ownF]
  | s :: r, b => by
    show ownF n r (if s.2 < s.1 then some b else if farI (clampS s n) n < farI b n ∨ (farI (clampS s n) n = farI b n ∧ clampS s n < b) then some (clampS s n) else some b) ≠ none
    split
    · exact ownF_ne n r _
    · split
      · exact ownF_ne n r _
      · exact ownF_ne n r _
theorem ownF_law (n : Int) : ∀ (l : List Sp), (ownF n l none = none → ∀ k, inS l k = false) ∧ ∀ m, ownF n l none = some m → NearOf l n m
  | [] => ⟨fun _ k => rfl, fun m h => by cases h⟩
  | s :: r => by
    have e : ownF n (s :: r) none = ownF n r (if s.2 < s.1 then none else some (clampS s n)) := rfl
    rw [e]
    have ih := ownF_law n r
    split
    · rename_i hlt
      have hno : ∀ k, inS (s :: r) k = inS r k := fun k => by
        rw [inS_cons]
        have : hasS s k = false := by
          cases h : hasS s k
          · rfl
          · have := hasS_iff.1 h; omega
        rw [this]; rfl
      refine ⟨fun h k => by rw [hno]; exact ih.1 h k, fun m h => ?_⟩
      have := ih.2 m h
      exact ⟨by rw [hno]; exact this.1, fun k hk => this.2 k (by rw [← hno]; exact hk)⟩
    · rename_i hlt
      refine ⟨fun h => absurd h (ownF_ne n r _), fun m h => ?_⟩
      have b := ownF_some n r _ m h
      refine nearOf_clamps ?_ (fun t ht hle => ?_)
      · rw [inS_cons]
        rcases b.1 with e | e
        · rw [e, clamp_has (by omega)]; rfl
        · rw [e]; simp
      · rcases List.mem_cons.1 ht with rfl | ht
        · exact b.2.1
        · exact b.2.2 t ht hle
end Go.Proofs.YtankkadnhdfpfaaGreatDoor.Sp

/- How many spans there are in a meet, and in what is left: plain. -/
set_option linter.unusedSimpArgs false
set_option linter.unusedVariables false
namespace Go.Proofs.YtankkadnhdfpfaaGreatDoor.Sp

theorem ordL_lows : ∀ (R : List Sp), ordL R → (R.map (·.1)).Pairwise (· < ·) ∧ ∀ s ∈ R, inS R s.1 = true ∧ inS R (s.1 - 1) = false
  | [], _ => ⟨List.Pairwise.nil, by simp⟩
  | s :: r, h => by
    have hs := ordL_head h
    have hf := ordL_far r s h
    obtain ⟨h1, h2⟩ := ordL_lows r (ordL_tail h)
    refine ⟨?_, fun t ht => ?_⟩
    · rw [List.map_cons, List.pairwise_cons]
      refine ⟨fun x hx => ?_, h1⟩
      obtain ⟨t, ht, rfl⟩ := List.mem_map.1 hx
      have := hf t ht; omega
    · rw [inS_cons, inS_cons, Bool.or_eq_true, Bool.or_eq_false_iff, hasS_iff]
      rcases List.mem_cons.1 ht with rfl | ht'
      · refine ⟨.inl ⟨by omega, hs⟩, ?_, inS_far h (by omega)⟩
        rw [Bool.eq_false_iff, Ne, hasS_iff]; omega
      · obtain ⟨a, b⟩ := h2 t ht'
        have := hf t ht'
        refine ⟨.inr a, ?_, b⟩
        rw [Bool.eq_false_iff, Ne, hasS_iff]; omega
theorem inS_mem {l : List Sp} {n : Int} (h : inS l n = true) : ∃ s ∈ l, s.1 ≤ n ∧ n ≤ s.2 := by
  obtain ⟨s, hs, hh⟩ := List.any_eq_true.1 h
  exact ⟨s, hs, hasS_iff.1 hh⟩
theorem inS_of {l : List Sp} {n : Int} {s : Sp} (hs : s ∈ l) (h1 : s.1 ≤ n) (h2 : n ≤ s.2) : inS l n = true := List.any_eq_true.2 ⟨s, hs, hasS_iff.2 ⟨h1, h2⟩⟩
theorem rise_len : ∀ (xs ys : List Int), xs.Pairwise (· < ·) → (∀ x ∈ xs, x ∈ ys) → xs.length ≤ ys.length
  | [], ys, _, _ => by simp
  | x :: r, ys, h, hm => by
    have h' := List.pairwise_cons.1 h
    have hx := hm x (by simp)
    have h1 := rise_len r (ys.erase x) h'.2 (fun y hy => by
      have hlt := h'.1 y hy
      exact (List.mem_erase_of_ne (by omega)).2 (hm y (List.mem_cons_of_mem _ hy)))
    rw [List.length_erase_of_mem hx] at h1
    have : 0 < ys.length := List.length_pos_of_mem hx
    simp only [List.length_cons]; omega
theorem meet_len {a b R : List Sp} (ho : ordL R) (he : ∀ n, inS R n = (inS a n && inS b n)) : R.length ≤ a.length + b.length := by
  obtain ⟨h1, h2⟩ := ordL_lows R ho
  have := rise_len (R.map (·.1)) (a.map (·.1) ++ b.map (·.1)) h1 (fun x hx => by
    obtain ⟨s, hs, rfl⟩ := List.mem_map.1 hx
    obtain ⟨p, q⟩ := h2 s hs
    rw [he, Bool.and_eq_true] at p
    rw [he, Bool.and_eq_false_iff] at q
    rw [List.mem_append]
    rcases q with q | q
    · left
      obtain ⟨t, ht, t1, t2⟩ := inS_mem p.1
      rcases (by omega : t.1 ≤ s.1 - 1 ∨ t.1 = s.1) with e | e
      · rw [inS_of ht e (by omega)] at q; cases q
      · exact List.mem_map.2 ⟨t, ht, e⟩
    · right
      obtain ⟨t, ht, t1, t2⟩ := inS_mem p.2
      rcases (by omega : t.1 ≤ s.1 - 1 ∨ t.1 = s.1) with e | e
      · rw [inS_of ht e (by omega)] at q; cases q
      · exact List.mem_map.2 ⟨t, ht, e⟩)
  simpa using this
theorem less_len {a b R : List Sp} (ho : ordL R) (he : ∀ n, inS R n = (inS a n && !inS b n)) : R.length ≤ a.length + b.length := by
  obtain ⟨h1, h2⟩ := ordL_lows R ho
  have := rise_len (R.map (·.1)) (a.map (·.1) ++ b.map (fun s => s.2 + 1)) h1 (fun x hx => by
    obtain ⟨s, hs, rfl⟩ := List.mem_map.1 hx
    obtain ⟨p, q⟩ := h2 s hs
    rw [he, Bool.and_eq_true, Bool.not_eq_true'] at p
    rw [he, Bool.and_eq_false_iff, Bool.not_eq_false'] at q
    rw [List.mem_append]
    rcases q with q | q
    · left
      obtain ⟨t, ht, t1, t2⟩ := inS_mem p.1
      rcases (by omega : t.1 ≤ s.1 - 1 ∨ t.1 = s.1) with e | e
      · rw [inS_of ht e (by omega)] at q; cases q
      · exact List.mem_map.2 ⟨t, ht, e⟩
    · right
      obtain ⟨t, ht, t1, t2⟩ := inS_mem q
      rcases (by omega : s.1 ≤ t.2 ∨ t.2 + 1 = s.1) with e | e
      · rw [inS_of ht (by omega) e] at p; cases p.2
      · exact List.mem_map.2 ⟨t, ht, e⟩)
  simpa using this
end Go.Proofs.YtankkadnhdfpfaaGreatDoor.Sp
