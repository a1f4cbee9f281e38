import Derived.Test.YtankkadnhdfpfaaGreatDoorPk04
import Derived.Sort.EncStr
import Derived.Lib.SlicesCompact
/- Texts in order, each once: plain. -/
set_option linter.unusedSimpArgs false
set_option linter.unusedVariables false
namespace Go.Proofs.YtankkadnhdfpfaaGreatDoor.Wd
open Go.Lib

abbrev Tx := List UInt8
def bs (t : Tx) : ByteArray := ⟨t.toArray⟩
def textB (t : Tx) : Bool := decide (t.length ≤ 256) && goodB (bs t)
def srt (l : List Tx) : List Tx := l.mergeSort fun x y => decide (x ≤ y)
def norm (l : List Tx) : List Tx := compact (srt (l.filter textB))
def inW (all : Bool) (l : List Tx) (t : Tx) : Bool := textB t && (l.contains t != all)

theorem tx_total (a b : Tx) : a ≤ b ∨ b ≤ a := List.le_total a b
theorem tx_trans {a b c : Tx} (h : a ≤ b) (h2 : b ≤ c) : a ≤ c := List.le_trans h h2
theorem tx_lt_of_ne {a b : Tx} (h : a ≤ b) (h2 : b ≠ a) : a < b := by
  rcases Classical.em (a < b) with h3 | h3
  · exact h3
  · exact absurd (List.le_antisymm (List.not_lt.1 h3) h) h2
theorem tx_lt_trans {a b c : Tx} (h : a ≤ b) (h2 : b < c) : a < c := List.lt_of_le_of_lt h h2
theorem tx_irrefl (a : Tx) : ¬ a < a := List.lt_irrefl a
theorem tx_le {a b : Tx} (h : a < b) : a ≤ b := List.le_of_lt h

theorem mem_srt {l : List Tx} {x : Tx} : x ∈ srt l ↔ x ∈ l := List.mem_mergeSort
theorem srt_le (l : List Tx) : (srt l).Pairwise (· ≤ ·) := by
  have h := List.pairwise_mergeSort (le := fun x y : Tx => decide (x ≤ y)) (fun a b c h1 h2 => by simp only [decide_eq_true_eq] at *; exact tx_trans h1 h2) (fun a b => by simp only [Bool.or_eq_true, decide_eq_true_eq]; exact tx_total a b) l
  exact h.imp (fun h => by simpa using h)

theorem mem_compact {l : List Tx} {x : Tx} : x ∈ compact l ↔ x ∈ l := by
  unfold compact compactUpTo
  constructor
  · intro h
    obtain ⟨j, hj, rfl⟩ := List.mem_map.1 h
    have hj2 := (List.mem_filter.1 hj).1
    have hj3 : j < l.length := by simpa using hj2
    rw [getElem!_pos l.toArray j (by simpa using hj3)]
    simp
  · intro h
    obtain ⟨j, hj, rfl⟩ := List.getElem_of_mem h
    have key : ∀ j (hj : j < l.length), l[j]'hj ∈ ((List.range l.length).filter (keeps l.toArray)).map (l.toArray[·]!) := by
      intro j
      induction j with
      | zero =>
        intro hj
        refine List.mem_map.2 ⟨0, List.mem_filter.2 ⟨by simpa using hj, keeps_lt_one _ 0 (by omega)⟩, ?_⟩
        rw [getElem!_pos l.toArray 0 (by simpa using hj)]; simp
      | succ j ih =>
        intro hj
        by_cases hk : keeps l.toArray (j + 1) = true
        · refine List.mem_map.2 ⟨j + 1, List.mem_filter.2 ⟨by simpa using hj, hk⟩, ?_⟩
          rw [getElem!_pos l.toArray (j + 1) (by simpa using hj)]; simp
        · have h2 := ih (by omega)
          have e : l[j + 1]'hj = l[j]'(by omega) := by
            rcases Classical.em (l.toArray[j + 1]! = l.toArray[j + 1 - 1]!) with h3 | h3
            · rw [getElem!_pos l.toArray (j + 1) (by simpa using hj), getElem!_pos l.toArray (j + 1 - 1) (by simp; omega)] at h3
              simpa using h3
            · exact absurd (keeps_pos h3) hk
          rw [e]; exact h2
    exact key j hj
theorem compact_lt {l : List Tx} (h : l.Pairwise (· ≤ ·)) : (compact l).Pairwise (· < ·) := by
  unfold compact compactUpTo
  rw [List.pairwise_map]
  have hr : ((List.range l.length).filter (keeps l.toArray)).Pairwise (fun a b => a < b) := List.Pairwise.filter _ List.pairwise_lt_range
  refine List.Pairwise.imp_of_mem ?_ hr
  intro i j hi hj hij
  obtain ⟨hj1, hj2⟩ := List.mem_filter.1 hj
  have hj3 : j < l.length := by simpa using hj1
  have hne : l[j]'hj3 ≠ l[j - 1]'(by omega) := by
    intro e
    have h0 := keeps_neg (d := l.toArray) (m := j) (by omega) (by
      rw [getElem!_pos l.toArray j (by simpa using hj3), getElem!_pos l.toArray (j - 1) (by simp; omega)]
      simpa using e)
    rw [h0] at hj2; cases hj2
  rw [getElem!_pos l.toArray i (by simp; omega), getElem!_pos l.toArray j (by simpa using hj3)]
  show l[i]'(by omega) < l[j]'hj3
  have hp := List.pairwise_iff_getElem.1 h
  have h1 : l[j - 1]'(by omega) < l[j]'hj3 := tx_lt_of_ne (hp (j - 1) j (by omega) hj3 (by omega)) hne
  by_cases hij2 : i = j - 1
  · subst hij2; exact h1
  · exact tx_lt_trans (hp i (j - 1) (by omega) (by omega) (by omega)) h1

theorem mem_norm {l : List Tx} {x : Tx} : x ∈ norm l ↔ x ∈ l ∧ textB x = true := by
  unfold norm
  rw [mem_compact, mem_srt, List.mem_filter]
theorem norm_lt (l : List Tx) : (norm l).Pairwise (· < ·) := compact_lt (srt_le _)
theorem rise_eq : ∀ {l m : List Tx}, l.Pairwise (· < ·) → m.Pairwise (· < ·) → (∀ x, x ∈ l ↔ x ∈ m) → l = m
  | [], [], _, _, _ => rfl
  | [], y :: m, _, _, h => absurd ((h y).2 (by simp)) (by simp)
  | x :: l, [], _, _, h => absurd ((h x).1 (by simp)) (by simp)
  | x :: l, y :: m, h1, h2, h => by
    obtain ⟨a1, b1⟩ := List.pairwise_cons.1 h1
    obtain ⟨a2, b2⟩ := List.pairwise_cons.1 h2
    have e : x = y := by
      rcases List.mem_cons.1 ((h x).1 (by simp)) with e | hx
      · exact e
      · rcases List.mem_cons.1 ((h y).2 (by simp)) with e | hy
        · exact e.symm
        · exact absurd (tx_lt_trans (tx_le (a2 x hx)) (a1 y hy)) (tx_irrefl _)
    subst e
    congr 1
    refine rise_eq b1 b2 (fun z => ⟨fun hz => ?_, fun hz => ?_⟩)
    · rcases List.mem_cons.1 ((h z).1 (List.mem_cons_of_mem _ hz)) with e | h'
      · subst e; exact absurd (a1 _ hz) (tx_irrefl _)
      · exact h'
    · rcases List.mem_cons.1 ((h z).2 (List.mem_cons_of_mem _ hz)) with e | h'
      · subst e; exact absurd (a2 _ hz) (tx_irrefl _)
      · exact h'
theorem norm_norm (l : List Tx) : norm (norm l) = norm l :=
  rise_eq (norm_lt _) (norm_lt _) (fun x => by rw [mem_norm, mem_norm]; exact ⟨fun h => h.1, fun h => ⟨h, h.2⟩⟩)
theorem inW_norm (all : Bool) (l : List Tx) (t : Tx) : inW all (norm l) t = inW all l t := by
  unfold inW
  cases h : textB t
  · rfl
  · congr 2
    rw [Bool.eq_iff_iff, List.contains_iff_mem, List.contains_iff_mem, mem_norm]
    exact ⟨fun h => h.1, fun h' => ⟨h', h⟩⟩
theorem compact_length (l : List Tx) : (compact l).length ≤ l.length := by
  unfold compact compactUpTo
  rw [List.length_map]
  exact Nat.le_trans (List.length_filter_le _ _) (by simp)
theorem norm_length (l : List Tx) : (norm l).length ≤ l.length := by
  unfold norm
  refine Nat.le_trans (compact_length _) ?_
  unfold srt
  rw [List.length_mergeSort]
  exact List.length_filter_le _ _
def riseB : List Tx → Bool
  | [] => true
  | [x] => textB x
  | x :: y :: r => textB x && decide (x < y) && riseB (y :: r)
theorem riseB_of : ∀ {l : List Tx}, l.Pairwise (· < ·) → (∀ x ∈ l, textB x = true) → riseB l = true
  | [], _, _ => rfl
  | [x], _, h => h x (by simp)
  | x :: y :: r, h1, h2 => by
    obtain ⟨a, b⟩ := List.pairwise_cons.1 h1
    show (textB x && decide (x < y) && riseB (y :: r)) = true
    rw [h2 x (by simp), riseB_of b (fun z hz => h2 z (List.mem_cons_of_mem _ hz)), decide_eq_true (a y (by simp))]
    rfl
theorem riseB_norm (l : List Tx) : riseB (norm l) = true := riseB_of (norm_lt l) (fun _ h => (mem_norm.1 h).2)
def meetW (aA : Bool) (a : List Tx) (bA : Bool) (b : List Tx) : Bool × List Tx :=
  if (aA && bA) = true then (true, norm (a ++ b))
  else if aA = true then (false, norm (b.filter fun t => inW aA a t))
  else (false, norm (a.filter fun t => inW bA b t))
theorem contains_filter (p : Tx → Bool) (l : List Tx) (t : Tx) : (l.filter p).contains t = (l.contains t && p t) := by
  rw [Bool.eq_iff_iff, List.contains_iff_mem, List.mem_filter, Bool.and_eq_true, List.contains_iff_mem]
theorem contains_append (l m : List Tx) (t : Tx) : (l ++ m).contains t = (l.contains t || m.contains t) := by
  rw [Bool.eq_iff_iff, List.contains_iff_mem, List.mem_append, Bool.or_eq_true, List.contains_iff_mem, List.contains_iff_mem]
theorem inW_meet (aA : Bool) (a : List Tx) (bA : Bool) (b : List Tx) (t : Tx) : inW (meetW aA a bA b).1 (meetW aA a bA b).2 t = (inW aA a t && inW bA b t) := by
  unfold meetW
  cases aA <;> cases bA <;> simp only [Bool.and_self, Bool.and_false, Bool.false_and, Bool.and_true, if_true, if_false, Bool.false_eq_true, inW_norm] <;> unfold inW <;> (try rw [contains_filter]) <;> (try rw [contains_append]) <;> cases textB t <;> cases a.contains t <;> cases b.contains t <;> rfl
theorem meet_all (aA : Bool) (a : List Tx) (bA : Bool) (b : List Tx) : (meetW aA a bA b).1 = (aA && bA) := by
  unfold meetW
  cases aA <;> cases bA <;> rfl
theorem meet_rise (aA : Bool) (a : List Tx) (bA : Bool) (b : List Tx) : ∃ l, (meetW aA a bA b).2 = norm l := by
  unfold meetW
  cases aA <;> cases bA <;> exact ⟨_, rfl⟩
theorem inW_other (aA : Bool) (a : List Tx) (t : Tx) : inW (!aA) (norm a) t = (!inW aA a t && textB t) := by
  rw [inW_norm]; unfold inW
  cases textB t <;> cases a.contains t <;> cases aA <;> rfl
def emptyW (all : Bool) (l : List Tx) : Bool := !all && (norm l).isEmpty
theorem emptyW_of {l : List Tx} (h : ∀ t, inW false l t = false) : emptyW false l = true := by
  unfold emptyW
  rw [Bool.not_false, Bool.true_and, List.isEmpty_iff]
  cases hn : norm l with
  | nil => rfl
  | cons x r =>
    have hx := mem_norm.1 (show x ∈ norm l by rw [hn]; simp)
    have := h x
    unfold inW at this
    rw [hx.2, (List.contains_iff_mem).2 hx.1] at this
    cases this
end Go.Proofs.YtankkadnhdfpfaaGreatDoor.Wd
