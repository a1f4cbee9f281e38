/- (*strings.byteStringReplacer).Replace at the two signs, walked. -/
import Derived.Test.YthicilfhnakhmaaGreatDoorRp0
import Derived.Laws.IdiomCopy
set_option linter.unusedSimpArgs false
set_option linter.unusedVariables false
namespace Go.Proofs.YthicilfhnakhmaaGreatDoor
open Go.RowKit Go.Sort Go.Lib

/-- how many of the two signs there are -/
def spN (l : List UInt8) : Nat := countByte l 34 + countByte l 92
theorem escL_length : ∀ l : List UInt8, (escL l).length = l.length + spN l
  | [] => rfl
  | x :: r => by
    have ih := escL_length r
    unfold spN countByte at *
    rw [escL, List.count_cons, List.count_cons, List.length_cons]
    by_cases h34 : x = 34
    · subst h34
      rw [if_pos (.inl rfl)]
      simp only [List.length_cons, beq_self_eq_true, if_true]
      rw [ih, if_neg (by decide)]; omega
    · by_cases h92 : x = 92
      · subst h92
        rw [if_pos (.inr rfl)]
        simp only [List.length_cons, beq_self_eq_true, if_true]
        rw [ih, if_neg (by decide)]; omega
      · rw [if_neg (by rintro (h | h) <;> contradiction), List.length_cons, ih, if_neg (by simpa using h34), if_neg (by simpa using h92)]; omega
theorem escL_none : ∀ l : List UInt8, spN l = 0 → escL l = l
  | [], _ => rfl
  | x :: r, h => by
    have hr : spN r = 0 ∧ ¬ (x = 34 ∨ x = 92) := by
      unfold spN countByte at h ⊢
      rw [List.count_cons, List.count_cons] at h
      refine ⟨by omega, ?_⟩
      rintro (rfl | rfl)
      · simp at h
      · simp at h
    rw [escL, if_neg hr.2, escL_none r hr.1]
theorem spN_take (l : List UInt8) (i : Nat) (h : i < l.length) : spN (l.take (i + 1)) = spN (l.take i) + (if l[i] = 34 ∨ l[i] = 92 then 1 else 0) := by
  rw [List.take_succ_eq_append_getElem h]
  unfold spN countByte
  rw [List.count_append, List.count_append]
  generalize l[i] = x
  by_cases h34 : x = 34
  · subst h34; first | (simp; done) | (simp; omega)
  · by_cases h92 : x = 92
    · subst h92; first | (simp; done) | (simp; omega)
    · simp [h34, h92]
theorem escL_take (l : List UInt8) (i : Nat) (h : i < l.length) : escL (l.take (i + 1)) = escL (l.take i) ++ (if l[i] = 34 ∨ l[i] = 92 then [92, l[i]] else [l[i]]) := by
  rw [List.take_succ_eq_append_getElem h, escL_append]
  congr 1
theorem spN_le (l : List UInt8) : spN l ≤ 2 * l.length := by
  unfold spN countByte
  have := List.count_le_length (a := (34 : UInt8)) (l := l)
  have := List.count_le_length (a := (92 : UInt8)) (l := l)
  omega
/-- the row that is written: the first signs are there -/
structure FillB (W : World) (N n : Nat) (l : List UInt8) : Prop where
  lt : N < W.heap.size
  fz : ∀ o, W.frozen? ⟨N, o, none⟩ = false
  le : l.length ≤ n
  cells : ∀ k, k < n → ∃ x : UInt8, W.cell? ⟨N, k, none⟩ = some (.int .u8 (x.toNat : Int)) ∧ (∀ h : k < l.length, l[k] = x)
theorem FillB.drew {W : World} {N n : Nat} {l : List UInt8} (h : FillB W N n l) : FillB W.drew N n l :=
  ⟨h.lt, fun o => h.fz o, h.le, fun k hk => h.cells k hk⟩
theorem FillB.put {W : World} {N n : Nat} {l : List UInt8} (h : FillB W N n l) (x : UInt8) (hl : l.length < n) : FillB (W.setCell ⟨N, l.length, none⟩ (.int .u8 (x.toNat : Int))) N n (l ++ [x]) where
  lt := by rw [sz_set]; exact h.lt
  fz := fun o => by rw [World.frozen?_setCell]; exact h.fz o
  le := by rw [List.length_append]; exact hl
  cells := fun k hk => by
    by_cases hkl : k = l.length
    · subst hkl
      obtain ⟨y, hy, _⟩ := h.cells _ hk
      exact ⟨x, World.cell?_setCell_same _ _ _ hy, fun h' => by simp⟩
    · obtain ⟨y, hy, hl'⟩ := h.cells k hk
      refine ⟨y, by rw [World.cell?_setCell_other _ _ _ _ (by intro e; exact hkl (congrArg Addr.off e).symm)]; exact hy, fun h' => ?_⟩
      have hlt : k < l.length := by rw [List.length_append, List.length_singleton] at h'; omega
      rw [List.getElem_append_left hlt]
      exact hl' hlt
end Go.Proofs.YthicilfhnakhmaaGreatDoor
