/- Spans: the plain laws of meeting, cutting and nearness. -/
import Derived.Test.YthdbbefiebolbaaSpans0
import Derived.Test.YthdbbefiebolbaaSpans0b
set_option linter.unusedSimpArgs false
set_option linter.unusedVariables false
namespace Go.Proofs.Ythdbbefiebolbaa

theorem inS_append (a b : List Sp) (n : Int) : inS (a ++ b) n = (inS a n || inS b n) := List.any_append
theorem inS_nil (n : Int) : inS [] n = false := rfl
theorem joinOf_uniq {l l' R R' : List Sp} (h : JoinOf l R) (h' : JoinOf l' R') (he : ∀ n, inS l n = inS l' n) : R = R' :=
  ord_uniq R R' h.ord h'.ord (fun n => by rw [h.same, h'.same, he])

def meetS (x y : Sp) : Sp := (max x.1 y.1, min x.2 y.2)
theorem meetS_has (x y : Sp) (n : Int) : hasS (meetS x y) n = (hasS x n && hasS y n) := by
  rw [Bool.eq_iff_iff, Bool.and_eq_true, hasS_iff, hasS_iff, hasS_iff]
  unfold meetS
  show max x.1 y.1 ≤ n ∧ n ≤ min x.2 y.2 ↔ _
  omega
theorem meetS_wf {x y : Sp} (hx : SpWf x) (hy : SpWf y) : SpWf (meetS x y) := by
  have h1 := hx.l1; have h2 := hx.l2; have h3 := hx.h1; have h4 := hx.h2
  have k1 := hy.l1; have k2 := hy.l2; have k3 := hy.h1; have k4 := hy.h2
  refine ⟨?_, ?_, ?_, ?_⟩
  · show _ ≤ max x.1 y.1; omega
  · show max x.1 y.1 ≤ _; omega
  · show _ ≤ min x.2 y.2; omega
  · show min x.2 y.2 ≤ _; omega
def meetRow (x : Sp) (ys : List Sp) : List Sp := ys.map (meetS x)
theorem meetRow_in (x : Sp) : ∀ (ys : List Sp) (n : Int), inS (meetRow x ys) n = (hasS x n && inS ys n)
  | [], n => by simp [meetRow, inS]
  | y :: r, n => by
    have := meetRow_in x r n
    unfold meetRow at this ⊢
    rw [List.map_cons, inS_cons, inS_cons, this, meetS_has]
    cases hasS x n <;> simp
def meetAll (xs ys : List Sp) : List Sp := xs.flatMap (fun x => meetRow x ys)
theorem meetAll_in (ys : List Sp) : ∀ (xs : List Sp) (n : Int), inS (meetAll xs ys) n = (inS xs n && inS ys n)
  | [], n => by simp [meetAll, inS]
  | x :: r, n => by
    have := meetAll_in ys r n
    unfold meetAll at this ⊢
    rw [List.flatMap_cons, inS_append, this, inS_cons, meetRow_in]
    cases hasS x n <;> cases inS r n <;> simp
theorem meetAll_wf {xs ys : List Sp} (hx : ∀ s ∈ xs, SpWf s) (hy : ∀ s ∈ ys, SpWf s) : ∀ s ∈ meetAll xs ys, SpWf s := by
  intro s hs
  obtain ⟨x, h1, h2⟩ := List.mem_flatMap.1 hs
  obtain ⟨y, h3, rfl⟩ := List.mem_map.1 h2
  exact meetS_wf (hx x h1) (hy y h3)
theorem meetAll_len (ys : List Sp) : ∀ (xs : List Sp), (meetAll xs ys).length = xs.length * ys.length
  | [] => by simp [meetAll]
  | x :: r => by
    have := meetAll_len ys r
    unfold meetAll at this ⊢
    rw [List.flatMap_cons, List.length_append, this, List.length_cons, Nat.succ_mul]
    simp [meetRow]; omega

/-- what is left of a span behind some others, in order -/
def cutS : Sp → List Sp → List Sp
  | x, [] => [x]
  | x, y :: r =>
    if (decide (y.2 < x.1) || decide (x.2 < y.1)) = true then cutS x r
    else (if x.1 < y.1 then [(x.1, y.1 - 1)] else []) ++ (if x.2 ≤ y.2 then [] else cutS (y.2 + 1, x.2) r)
theorem cutS_in : ∀ (ys : List Sp) (x : Sp) (n : Int), ordL ys → inS (cutS x ys) n = (hasS x n && !inS ys n)
  | [], x, n, _ => by simp [cutS, inS]
  | y :: r, x, n, ho => by
    have hr := ordL_tail ho
    have hh := ordL_head ho
    have hfar : n ≤ y.2 + 1 → inS r n = false := fun h => inS_far ho h
    rw [inS_cons]
    unfold cutS
    split
    · rename_i h
      rw [cutS_in r x n hr]
      have : hasS x n = true → hasS y n = false := by
        intro hx
        have h1 := hasS_iff.1 hx
        cases hy : hasS y n
        · rfl
        · have h2 := hasS_iff.1 hy
          simp at h
          omega
      cases hx : hasS x n
      · rfl
      · rw [this hx]; rfl
    · rename_i h
      simp only [Bool.not_eq_true, Bool.or_eq_false_iff, decide_eq_false_iff_not] at h
      rw [inS_append]
      have e1 : inS (if x.1 < y.1 then [(x.1, y.1 - 1)] else []) n = (decide (x.1 ≤ n) && decide (n < y.1)) := by
        split
        · rw [Bool.eq_iff_iff]; simp [inS, hasS]; omega
        · rename_i h2; rw [Bool.eq_iff_iff]; simp [inS]; omega
      have e2 : inS (if x.2 ≤ y.2 then [] else cutS (y.2 + 1, x.2) r) n = (decide (y.2 < n) && decide (n ≤ x.2) && !inS r n) := by
        split
        · rename_i h2; rw [Bool.eq_iff_iff]; simp [inS]; omega
        · rw [cutS_in r _ n hr]
          have : hasS (y.2 + 1, x.2) n = (decide (y.2 < n) && decide (n ≤ x.2)) := by
            rw [Bool.eq_iff_iff]; simp [hasS]; try omega
          rw [this]
      rw [e1, e2]
      by_cases hn : n ≤ y.2 + 1
      · rw [hfar hn, Bool.eq_iff_iff]
        simp [hasS]
        omega
      · cases hi : inS r n
        · rw [Bool.eq_iff_iff]; simp [hasS]; omega
        · rw [Bool.eq_iff_iff]; simp [hasS]; omega
theorem cutS_wf : ∀ (ys : List Sp) (x : Sp), SpWf x → (∀ s ∈ ys, SpWf s) → ∀ s ∈ cutS x ys, SpWf s
  | [], x, hx, _, s, hs => by
    have : s = x := by simpa [cutS] using hs
    rw [this]; exact hx
  | y :: r, x, hx, hy, s, hs => by
    have h1 := hx.l1; have h2 := hx.l2; have h3 := hx.h1; have h4 := hx.h2
    have hyw := hy y (by simp)
    have k1 := hyw.l1; have k2 := hyw.l2; have k3 := hyw.h1; have k4 := hyw.h2
    have hr : ∀ s ∈ r, SpWf s := fun t ht => hy t (List.mem_cons_of_mem _ ht)
    unfold cutS at hs
    split at hs
    · exact cutS_wf r x hx hr s hs
    · rcases List.mem_append.1 hs with hs | hs
      · split at hs
        · obtain rfl : s = (x.1, y.1 - 1) := by simpa using hs
          exact ⟨h1, h2, by show _ ≤ y.1 - 1; omega, by show y.1 - 1 ≤ _; omega⟩
        · cases hs
      · split at hs
        · cases hs
        · exact cutS_wf r (y.2 + 1, x.2) ⟨by show _ ≤ y.2 + 1; omega, by show y.2 + 1 ≤ _; omega, h3, h4⟩ hr s hs
theorem cutS_len : ∀ (ys : List Sp) (x : Sp), (cutS x ys).length ≤ ys.length + 1
  | [], x => by simp [cutS]
  | y :: r, x => by
    have a := cutS_len r x
    have b := cutS_len r (y.2 + 1, x.2)
    unfold cutS
    split
    · simp; omega
    · rw [List.length_append]
      split <;> split <;> simp <;> omega
def cutAll (xs ys : List Sp) : List Sp := xs.flatMap (fun x => cutS x ys)
theorem cutAll_in {ys : List Sp} (ho : ordL ys) : ∀ (xs : List Sp) (n : Int), inS (cutAll xs ys) n = (inS xs n && !inS ys n)
  | [], n => by simp [cutAll, inS]
  | x :: r, n => by
    have := cutAll_in ho r n
    unfold cutAll at this ⊢
    rw [List.flatMap_cons, inS_append, this, inS_cons, cutS_in ys x n ho]
    cases hasS x n <;> cases inS r n <;> simp
theorem cutAll_wf {xs ys : List Sp} (hx : ∀ s ∈ xs, SpWf s) (hy : ∀ s ∈ ys, SpWf s) : ∀ s ∈ cutAll xs ys, SpWf s := by
  intro s hs
  obtain ⟨x, h1, h2⟩ := List.mem_flatMap.1 hs
  exact cutS_wf ys x (hx x h1) hy s h2
theorem cutAll_len (ys : List Sp) : ∀ (xs : List Sp), (cutAll xs ys).length ≤ xs.length * (ys.length + 1)
  | [] => by simp [cutAll]
  | x :: r => by
    have := cutAll_len ys r
    have h2 := cutS_len ys x
    unfold cutAll at this ⊢
    rw [List.flatMap_cons, List.length_append, List.length_cons, Nat.succ_mul]
    omega

/-- what Meet and Without hand back -/
structure SetOf (f : Int → Bool) (k : Nat) (R : List Sp) : Prop where
  wf : ∀ s ∈ R, SpWf s
  ord : ordL R
  same : ∀ n, inS R n = f n
  len : R.length ≤ k
theorem SetOf.uniq {f g : Int → Bool} {k m : Nat} {R S : List Sp} (h : SetOf f k R) (h' : SetOf g m S) (he : ∀ n, f n = g n) : R = S :=
  ord_uniq R S h.ord h'.ord (fun n => by rw [h.same, h'.same, he])
theorem JoinOf.set {l R : List Sp} (h : JoinOf l R) : SetOf (inS l) l.length R := ⟨h.wf, h.ord, h.same, h.len⟩
theorem ordL_none {R : List Sp} (h : ordL R) (he : ∀ n, inS R n = false) : R = [] := ord_uniq R [] h trivial (fun n => by rw [he]; rfl)

/-! nearness -/
/-- how far two numbers are from one another -/
def farI (a b : Int) : Int := max a b - min a b
/-- the number of a span that is nearest -/
def clampS (s : Sp) (n : Int) : Int := max s.1 (min n s.2)
/-- a nearest one, the lower of two -/
def NearOf (l : List Sp) (n m : Int) : Prop := inS l m = true ∧ ∀ k, inS l k = true → farI m n < farI k n ∨ (farI m n = farI k n ∧ m ≤ k)
theorem NearOf.uniq {l l' : List Sp} {n m k : Int} (h : NearOf l n m) (h' : NearOf l' n k) (he : ∀ i, inS l i = inS l' i) : m = k := by
  have a := h.2 k (by rw [he]; exact h'.1)
  have b := h'.2 m (by rw [← he]; exact h.1)
  omega
theorem clamp_has {s : Sp} (h : s.1 ≤ s.2) (n : Int) : hasS s (clampS s n) = true := by
  rw [hasS_iff]; unfold clampS; omega
theorem clamp_near {s : Sp} (n k : Int) (hk : hasS s k = true) : farI (clampS s n) n < farI k n ∨ (farI (clampS s n) n = farI k n ∧ clampS s n ≤ k) := by
  have := hasS_iff.1 hk
  unfold farI clampS; omega
theorem inS_clamp {l : List Sp} {s : Sp} (hs : s ∈ l) (h : s.1 ≤ s.2) (n : Int) : inS l (clampS s n) = true :=
  List.any_eq_true.2 ⟨s, hs, clamp_has h n⟩
theorem nearOf_clamps {l : List Sp} {n m : Int} (hm : inS l m = true) (hall : ∀ s ∈ l, s.1 ≤ s.2 → farI m n < farI (clampS s n) n ∨ (farI m n = farI (clampS s n) n ∧ m ≤ clampS s n)) : NearOf l n m := by
  refine ⟨hm, fun k hk => ?_⟩
  obtain ⟨s, hs, hk⟩ := List.any_eq_true.1 hk
  have h1 := hasS_iff.1 hk
  have a := hall s hs (by omega)
  have b := clamp_near n k hk
  omega
/-- Near's way over spans in order: the best so far -/
def nearF (n : Int) : List Sp → Option Int → Option Int
  | [], b => b
  | s :: r, none => nearF n r (some (clampS s n))
  | s :: r, some b => nearF n r (if farI (clampS s n) n < farI b n then some (clampS s n) else some b)
theorem nearF_some (n : Int) : ∀ (l : List Sp) (b : Int), ∃ m, nearF n l (some b) = some m
  | [], b => ⟨b, rfl⟩
  | s :: r, b => by
    show ∃ m, nearF n r (if farI (clampS s n) n < farI b n then some (clampS s n) else some b) = some m
    split
    · exact nearF_some n r _
    · exact nearF_some n r _
theorem nearF_best (n : Int) : ∀ (l : List Sp) (b : Int), ordL l → (∀ s ∈ l, b < s.1) → ∀ m, nearF n l (some b) = some m →
    (m = b ∨ inS l m = true) ∧ (farI m n < farI b n ∨ (farI m n = farI b n ∧ m ≤ b)) ∧ ∀ s ∈ l, farI m n < farI (clampS s n) n ∨ (farI m n = farI (clampS s n) n ∧ m ≤ clampS s n)
  | [], b, _, _, m, h => by
    obtain rfl : b = m := by simpa [nearF] using h
    exact ⟨Or.inl rfl, Or.inr ⟨rfl, Int.le_refl _⟩, fun s hs => by cases hs⟩
  | s :: r, b, ho, hb, m, h => by
    have hh := ordL_head ho
    have hr := ordL_tail ho
    have hf := ordL_far r s ho
    have hbs := hb s (by simp)
    have hc := hasS_iff.1 (clamp_has hh n)
    have h' : nearF n r (if farI (clampS s n) n < farI b n then some (clampS s n) else some b) = some m := h
    split at h'
    · rename_i hlt
      have ih := nearF_best n r (clampS s n) hr (fun t ht => by have := hf t ht; omega) m h'
      refine ⟨Or.inr ?_, by omega, fun t ht => ?_⟩
      · rw [inS_cons]
        rcases ih.1 with e | e
        · rw [e, clamp_has hh]; rfl
        · rw [e]; simp
      · rcases List.mem_cons.1 ht with rfl | ht
        · exact ih.2.1
        · exact ih.2.2 t ht
    · rename_i hlt
      have ih := nearF_best n r b hr (fun t ht => by have := hf t ht; omega) m h'
      refine ⟨?_, ih.2.1, fun t ht => ?_⟩
      · rcases ih.1 with e | e
        · exact Or.inl e
        · right; rw [inS_cons, e]; simp
      · rcases List.mem_cons.1 ht with rfl | ht
        · have := ih.2.1; omega
        · exact ih.2.2 t ht
theorem nearF_none {n : Int} {l : List Sp} (h : nearF n l none = none) : l = [] := by
  cases l with
  | nil => rfl
  | cons s r =>
    obtain ⟨m, hm⟩ := nearF_some n r (clampS s n)
    rw [show nearF n (s :: r) none = nearF n r (some (clampS s n)) from rfl, hm] at h
    cases h
theorem nearF_near {n : Int} {l : List Sp} (ho : ordL l) {m : Int} (h : nearF n l none = some m) : NearOf l n m := by
  cases l with
  | nil => cases h
  | cons s r =>
    have hh := ordL_head ho
    have hc := hasS_iff.1 (clamp_has hh n)
    have b := nearF_best n r (clampS s n) (ordL_tail ho) (fun t ht => by have := ordL_far r s ho t ht; omega) m h
    refine nearOf_clamps ?_ (fun t ht _ => ?_)
    · rw [inS_cons]
      rcases b.1 with e | e
      · rw [e, clamp_has hh]; rfl
      · rw [e]; simp
    · rcases List.mem_cons.1 ht with rfl | ht
      · exact b.2.1
      · exact b.2.2 t ht
/-- the law's way over any spans -/
def ownF (n : Int) : List Sp → Option Int → Option Int
  | [], b => b
  | s :: r, b => ownF n r (if s.2 < s.1 then b else match b with
    | none => some (clampS s n)
    | some m => if farI (clampS s n) n < farI m n ∨ (farI (clampS s n) n = farI m n ∧ clampS s n < m) then some (clampS s n) else some m)
theorem ownF_some (n : Int) : ∀ (l : List Sp) (b m : Int), ownF n l (some b) = some m →
    (m = b ∨ inS l m = true) ∧ (farI m n < farI b n ∨ (farI m n = farI b n ∧ m ≤ b)) ∧ ∀ s ∈ l, s.1 ≤ s.2 → farI m n < farI (clampS s n) n ∨ (farI m n = farI (clampS s n) n ∧ m ≤ clampS s n)
  | [], b, m, h => by
    obtain rfl : b = m := by simpa [ownF] using h
    exact ⟨Or.inl rfl, Or.inr ⟨rfl, Int.le_refl _⟩, fun s hs => by cases hs⟩
  | s :: r, b, m, h => by
    rw [inS_cons]
    have h' : ownF n r (if s.2 < s.1 then some b else if farI (clampS s n) n < farI b n ∨ (farI (clampS s n) n = farI b n ∧ clampS s n < b) then some (clampS s n) else some b) = some m := h
    split at h'
    · have ih := ownF_some n r b m h'
      refine ⟨ih.1.imp id (fun e => by rw [e]; simp), ih.2.1, fun t ht hle => ?_⟩
      rcases List.mem_cons.1 ht with rfl | ht
      · omega
      · exact ih.2.2 t ht hle
    · split at h'
      · have ih := ownF_some n r _ m h'
        refine ⟨Or.inr ?_, by omega, fun t ht hle => ?_⟩
        · rcases ih.1 with e | e
          · rw [e, clamp_has (by omega)]; rfl
          · rw [e]; simp
        · rcases List.mem_cons.1 ht with rfl | ht
          · exact ih.2.1
          · exact ih.2.2 t ht hle
      · have ih := ownF_some n r b m h'
        refine ⟨ih.1.imp id (fun e => by rw [e]; simp), ih.2.1, fun t ht hle => ?_⟩
        rcases List.mem_cons.1 ht with rfl | ht
        · omega
        · exact ih.2.2 t ht hle
theorem ownF_ne (n : Int) : ∀ (l : List Sp) (b : Int), ownF n l (some b) ≠ none
  | [], b => by simp [ownF]
  | s :: r, b => by
    show ownF n r (if s.2 < s.1 then some b else if farI (clampS s n) n < farI b n ∨ (farI (clampS s n) n = farI b n ∧ clampS s n < b) then some (clampS s n) else some b) ≠ none
    split
    · exact ownF_ne n r _
    · split
      · exact ownF_ne n r _
      · exact ownF_ne n r _
theorem ownF_law (n : Int) : ∀ (l : List Sp), (ownF n l none = none → ∀ k, inS l k = false) ∧ ∀ m, ownF n l none = some m → NearOf l n m
  | [] => ⟨fun _ k => rfl, fun m h => by cases h⟩
  | s :: r => by
    have e : ownF n (s :: r) none = ownF n r (if s.2 < s.1 then none else some (clampS s n)) := rfl
    rw [e]
    have ih := ownF_law n r
    split
    · rename_i hlt
      have hno : ∀ k, inS (s :: r) k = inS r k := fun k => by
        rw [inS_cons]
        have : hasS s k = false := by
          cases h : hasS s k
          · rfl
          · have := hasS_iff.1 h; omega
        rw [this]; rfl
      refine ⟨fun h k => by rw [hno]; exact ih.1 h k, fun m h => ?_⟩
      have := ih.2 m h
      exact ⟨by rw [hno]; exact this.1, fun k hk => this.2 k (by rw [← hno]; exact hk)⟩
    · rename_i hlt
      refine ⟨fun h => absurd h (ownF_ne n r _), fun m h => ?_⟩
      have b := ownF_some n r _ m h
      refine nearOf_clamps ?_ (fun t ht hle => ?_)
      · rw [inS_cons]
        rcases b.1 with e | e
        · rw [e, clamp_has (by omega)]; rfl
        · rw [e]; simp
      · rcases List.mem_cons.1 ht with rfl | ht
        · exact b.2.1
        · exact b.2.2 t ht hle
end Go.Proofs.Ythdbbefiebolbaa
