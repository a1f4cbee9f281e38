/- Slices of structs that read as lists: small words for the walks. -/
import Derived.Test.YthicilfhnakhmaaGreatDoorBase
set_option linter.unusedSimpArgs false
set_option linter.unusedVariables false
namespace Go.Proofs.YthicilfhnakhmaaGreatDoor
open Go.RowKit

/-- the cells from a place on -/
def CellsAt (w : World) (b o : Nat) (cs : List Value) : Prop := ∀ i v, cs[i]? = some v → w.cell? ⟨b, o + i, none⟩ = some v
/-- a slice's elements: each a row of sz cells -/
def RdL (w : World) (sz : Nat) (A : Option Addr) (css : List (List Value)) : Prop :=
  ∀ j c, css[j]? = some c → ∃ b off, A = some ⟨b, off, none⟩ ∧ CellsAt w b (off + j * sz) c

theorem cell_lt {w : World} {b o : Nat} {v : Value} (h : w.cell? ⟨b, o, none⟩ = some v) : b < w.heap.size := by
  rcases Nat.lt_or_ge b w.heap.size with h' | h'
  · exact h'
  · simp [World.cell?, Array.getElem?_eq_none h'] at h
theorem cell_below {w w' : World} (hb : Below w.heap.size w w') {b o : Nat} {v : Value} (h : w.cell? ⟨b, o, none⟩ = some v) : w'.cell? ⟨b, o, none⟩ = some v :=
  (hb.cell (p := ⟨b, o, none⟩) (cell_lt h)).trans h
theorem CellsAt.below {w w' : World} {b o : Nat} {cs : List Value} (h : CellsAt w b o cs) (hb : Below w.heap.size w w') : CellsAt w' b o cs :=
  fun i v hv => cell_below hb (h i v hv)
theorem RdL.below {w w' : World} {sz : Nat} {A : Option Addr} {css : List (List Value)} (h : RdL w sz A css) (hb : Below w.heap.size w w') : RdL w' sz A css :=
  fun j c hc => let ⟨b, off, e, hh⟩ := h j c hc; ⟨b, off, e, hh.below hb⟩
theorem RdL.nil_ (w : World) (sz : Nat) (A : Option Addr) : RdL w sz A [] := fun j c hc => by simp at hc
theorem CellsAt.get {w : World} {b o : Nat} {cs : List Value} (h : CellsAt w b o cs) (i : Nat) {v : Value} (hi : cs[i]? = some v) : w.cell? ⟨b, o + i, none⟩ = some v := h i v hi
theorem CellsAt.head {w : World} {b o : Nat} {v : Value} {cs : List Value} (h : CellsAt w b o (v :: cs)) : w.cell? ⟨b, o, none⟩ = some v := h 0 v rfl
/-- the element at a place -/
theorem RdL.at_ {α : Type} {w : World} {sz : Nat} {A : Option Addr} {xs : List α} {f : α → List Value} (h : RdL w sz A (xs.map f)) {j : Nat} (hj : j < xs.length) :
    ∃ b off, A = some ⟨b, off, none⟩ ∧ CellsAt w b (off + j * sz) (f (xs[j]'hj)) :=
  h j _ (by rw [List.getElem?_map, List.getElem?_eq_getElem hj]; rfl)

/-- the first place from j on of which p holds; -1: none -/
def idxF {α : Type} (p : α → Bool) : List α → Nat → Int
  | [], _ => -1
  | x :: r, j => if p x = true then (j : Int) else idxF p r (j + 1)
theorem idxF_drop_yes {α : Type} {p : α → Bool} {xs : List α} {j : Nat} (hj : j < xs.length) (h : p (xs[j]'hj) = true) : idxF p (xs.drop j) j = j := by
  rw [List.drop_eq_getElem_cons hj]
  exact if_pos h
theorem idxF_drop_no {α : Type} {p : α → Bool} {xs : List α} {j : Nat} (hj : j < xs.length) (h : p (xs[j]'hj) = false) : idxF p (xs.drop j) j = idxF p (xs.drop (j + 1)) (j + 1) := by
  rw [List.drop_eq_getElem_cons hj]
  exact if_neg (by rw [h]; simp)
theorem idxF_drop_end {α : Type} {p : α → Bool} {xs : List α} {j : Nat} (hj : ¬ j < xs.length) : idxF p (xs.drop j) j = -1 := by
  rw [List.drop_eq_nil_of_le (by omega)]
  rfl
theorem idxF_any {α : Type} (p : α → Bool) : ∀ (xs : List α) (j : Nat), decide (0 ≤ idxF p xs j) = xs.any p
  | [], _ => rfl
  | x :: r, j => by
    show decide (0 ≤ (if p x = true then (j : Int) else idxF p r (j + 1))) = (p x || r.any p)
    cases h : p x
    · rw [if_neg (by simp), idxF_any p r (j + 1)]; rfl
    · rw [if_pos rfl]; simp
end Go.Proofs.YthicilfhnakhmaaGreatDoor
