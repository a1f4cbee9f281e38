/- Rows of numbers in a row of their own: what graph.edges builds. -/
import Derived.Test.YthmmfghcfgbblaaGr3
import Derived.Test.YthmmfghcfgbblaaOwn2
import Derived.Laws.MakeOwn
set_option linter.unusedSimpArgs false
set_option linter.unusedVariables false
namespace Go.Proofs.Ythmmfghcfgbblaa
open Go.RowKit Go.Sort Go.Lib Go.ChangeMaps Go.WideShapes

/-- a row of its own reads as a list -/
theorem own_rd {w : World} {base : Nat} {e : TypeId} {sz : Nat} {v : Value} {n : Nat} {xs : List Value} {css : List (List Value)} (h : w.ownsRow base e sz v n xs) (hx : xs = css.flatten) (hs : ∀ c ∈ css, c.length = sz) (hn : css.length = n) :
    ∃ A c, v = .slice A n c ∧ RdL w sz A css := by
  obtain ⟨hl, h⟩ := h
  rcases h with ⟨rfl, rfl⟩ | ⟨g, cap, cur, rfl, hb, hg, h1, h2, h3, h4⟩
  · refine ⟨none, 0, rfl, ?_⟩
    obtain rfl : css = [] := List.length_eq_zero_iff.1 hn
    exact RdL.nil_ _ _ _
  · refine ⟨some ⟨g, 0, none⟩, cap, rfl, fun j c hj => ⟨g, 0, rfl, fun i u hu => ?_⟩⟩
    have hjl := (List.getElem?_eq_some_iff.1 hj).1
    have hc : c ∈ css := List.mem_of_getElem? hj
    have hil := (List.getElem?_eq_some_iff.1 hu).1
    have hcl := hs c hc
    have key : ∀ (l : List (List Value)) (j : Nat), (∀ c ∈ l, c.length = sz) → l[j]? = some c → l.flatten[j * sz + i]? = c[i]? := by
      intro l
      induction l with
      | nil => intro j _ h; simp at h
      | cons d r ih =>
        intro j hs' hj'
        cases j with
        | zero =>
          obtain rfl : d = c := by simpa using hj'
          simp only [List.flatten_cons, Nat.zero_mul, Nat.zero_add]
          exact List.getElem?_append_left hil
        | succ j =>
          have hd : d.length = sz := hs' d (by simp)
          simp only [List.flatten_cons]
          rw [List.getElem?_append_right (by rw [hd, Nat.succ_mul]; omega)]
          rw [show (j + 1) * sz + i - d.length = j * sz + i by rw [hd, Nat.succ_mul]; omega]
          exact ih j (fun c hc => hs' c (List.mem_cons_of_mem _ hc)) (by simpa using hj')
    have h5 := key css j hs hj
    rw [← hx, hu] at h5
    rw [← h4] at h5
    have h6 : cur.toList[j * sz + i]? = some u := by
      rw [List.getElem?_take] at h5
      split at h5
      · exact h5
      · cases h5
    rw [show (0 + j * sz + i) = j * sz + i by omega, cell_of_block hg]
    rw [← Array.getElem?_toList]
    exact h6
def nV (n : Nat) : Value := .int .i64 (n : Int)
theorem flat_iC : ∀ l : List Nat, (l.map iC).flatten = l.map nV
  | [] => rfl
  | x :: r => by rw [List.map_cons, List.flatten_cons, flat_iC r]; rfl
theorem own_rdI {w : World} {base : Nat} {v : Value} {l : List Nat} (h : w.ownsRow base 3 1 v l.length (l.map nV)) : ∃ A c, v = .slice A l.length c ∧ RdL w 1 A (l.map iC) ∧ ∀ a, A = some a → base ≤ a.block ∧ a.block < w.heap.size := by
  obtain ⟨A, c, e, hr⟩ := own_rd h (flat_iC l).symm (fun c hc => by obtain ⟨t, _, rfl⟩ := List.mem_map.1 hc; rfl) (by simp)
  refine ⟨A, c, e, hr, fun a ha => ?_⟩
  subst ha
  have := h.lt a.block (by rw [e]; rfl)
  exact this
theorem frozen_setCell (w : World) (a b : Addr) (v : Value) : (w.setCell a v).frozen? b = w.frozen? b := by
  simp only [World.setCell, World.frozen?, Array.getElem?_modify]
  by_cases hb : a.block = b.block
  · rw [if_pos hb]
    cases hh : w.heap[b.block]? with
    | none => rfl
    | some o => cases o <;> rfl
  · rw [if_neg hb]
/-- rows of numbers, their places in block G -/
structure RowsG (w : World) (G top : Nat) (E : List (List Nat)) : Prop where
  row : ∀ i (h : i < E.length), ∃ A c, w.cell? ⟨G, i, none⟩ = some (.slice A (E[i]'h).length c) ∧ RdL w 1 A ((E[i]'h).map iC) ∧ ∀ a, A = some a → a.block ≠ G ∧ a.block < top
  gt : G < top
  le : top ≤ w.heap.size
theorem RowsG.step {w w' : World} {G top : Nat} {E : List (List Nat)} (h : RowsG w G top E) (hb : ∀ k, k < top → k ≠ G → w'.heap[k]? = w.heap[k]?) (hc : ∀ i, i < E.length → w'.cell? ⟨G, i, none⟩ = w.cell? ⟨G, i, none⟩) (hle : top ≤ w'.heap.size) : RowsG w' G top E := by
  refine ⟨fun i hi => ?_, h.gt, hle⟩
  obtain ⟨A, c, h1, h2, h3⟩ := h.row i hi
  exact ⟨A, c, (hc i hi).trans h1, h2.of_block (fun p hp => hb _ (h3 p hp).2 (h3 p hp).1), h3⟩
theorem RowsG.below {w w' : World} {G top : Nat} {E : List (List Nat)} (h : RowsG w G top E) (hb : Below w.heap.size w w') : RowsG w' G top E :=
  h.step (fun k hk _ => hb.block k (Nat.lt_of_lt_of_le hk h.le)) (fun i _ => hb.cell (p := ⟨G, i, none⟩) (Nat.lt_of_lt_of_le h.gt h.le)) (Nat.le_trans h.le hb.size)
theorem RowsG.top_ {w : World} {G top top' : Nat} {E : List (List Nat)} (h : RowsG w G top E) (h1 : top ≤ top') (h2 : top' ≤ w.heap.size) : RowsG w G top' E :=
  ⟨fun i hi => let ⟨A, c, a, b, d⟩ := h.row i hi; ⟨A, c, a, b, fun x hx => ⟨(d x hx).1, Nat.lt_of_lt_of_le (d x hx).2 h1⟩⟩, Nat.lt_of_lt_of_le h.gt h1, h2⟩
theorem RowsG.add {w : World} {G top : Nat} {E : List (List Nat)} {v : Value} {l : List Nat} (h : RowsG w G top E) (hc : w.cell? ⟨G, E.length, none⟩ = some v) (ho : w.ownsRow top 3 1 v l.length (l.map nV)) : RowsG w G w.heap.size (E ++ [l]) := by
  obtain ⟨A, c, rfl, hr, hA⟩ := own_rdI ho
  refine ⟨fun i hi => ?_, Nat.lt_of_lt_of_le h.gt h.le, Nat.le_refl _⟩
  by_cases hi2 : i < E.length
  · rw [List.getElem_append_left hi2]
    obtain ⟨A', c', h1, h2, h3⟩ := h.row i hi2
    exact ⟨A', c', h1, h2, fun a ha => ⟨(h3 a ha).1, Nat.lt_of_lt_of_le (h3 a ha).2 h.le⟩⟩
  · have hi3 : i = E.length := by simp at hi; omega
    subst hi3
    rw [List.getElem_append_right (by omega)]
    simp only [Nat.sub_self, List.getElem_cons_zero]
    exact ⟨A, c, hc, hr, fun a ha => ⟨by have := (hA a ha).1; have := h.gt; omega, (hA a ha).2⟩⟩
/-- what is filled so far of the thing at hand -/
structure FillG (w : World) (G top N : Nat) (E : List (List Nat)) (v : Value) (l : List Nat) : Prop where
  rows : RowsG w G top E
  cell : w.cell? ⟨G, E.length, none⟩ = some v
  own : w.ownsRow top 3 1 v l.length (l.map nV)
  nil : ∀ i, E.length < i → i < N → w.cell? ⟨G, i, none⟩ = some (.slice none 0 0)
  free : ∀ o, w.frozen? ⟨G, o, none⟩ = false
theorem FillG.same {w w1 w2 : World} {G top N : Nat} {E : List (List Nat)} {v : Value} {l : List Nat} (h : FillG w G top N E v l) (hb : Below w.heap.size w w1) (hg : w1.grownBy w2 v.ownBlock) (k : Nat) (hk : k < top) : w2.heap[k]? = w.heap[k]? :=
  (hg.block k (Nat.lt_of_lt_of_le (Nat.lt_of_lt_of_le hk h.rows.le) hb.size) (fun e => by have := (h.own.lt k e.symm).1; omega)).trans (hb.block k (Nat.lt_of_lt_of_le hk h.rows.le))
/-- one number more: behind the append of it, and the store -/
theorem FillG.more {w w1 w2 : World} {G top N : Nat} {E : List (List Nat)} {v v2 : Value} {l : List Nat} {x : Nat} (h : FillG w G top N E v l) (hN : E.length < N) (hb : Below w.heap.size w w1) (ho : w2.ownsRow top 3 1 v2 (l ++ [x]).length ((l ++ [x]).map nV)) (hg : w1.grownBy w2 v.ownBlock) :
    FillG (w2.setCell ⟨G, E.length, none⟩ v2) G top N E v2 (l ++ [x]) := by
  have hGw : G < w.heap.size := Nat.lt_of_lt_of_le h.rows.gt h.rows.le
  have hown : ∀ k, v.ownBlock = some k → top ≤ k := fun k hk => (h.own.lt k hk).1
  have hblk : ∀ k, k < top → w2.heap[k]? = w.heap[k]? := fun k hk => (hg.block k (Nat.lt_of_lt_of_le (Nat.lt_of_lt_of_le hk h.rows.le) hb.size) (fun e => by have := hown k e.symm; omega)).trans (hb.block k (Nat.lt_of_lt_of_le hk h.rows.le))
  have hcG : ∀ o, w2.cell? ⟨G, o, none⟩ = w.cell? ⟨G, o, none⟩ := fun o => World.cell?_of_block (a := ⟨G, o, none⟩) (hblk G h.rows.gt)
  have hfG : ∀ o, w2.frozen? ⟨G, o, none⟩ = w.frozen? ⟨G, o, none⟩ := fun o => World.frozen?_of_block (a := ⟨G, o, none⟩) (hblk G h.rows.gt)
  have hle : top ≤ w2.heap.size := Nat.le_trans h.rows.le (Nat.le_trans hb.size hg.size)
  refine ⟨h.rows.step (fun k hk hne => ?_) (fun i hi => ?_) (by simpa using hle), ?_, ?_, fun i h1 h2 => ?_, fun o => ?_⟩
  · rw [heap_setCell_other w2 ⟨G, E.length, none⟩ k v2 hne]
    exact hblk k hk
  · rw [World.cell?_setCell_other _ _ _ _ (by intro hh; injection hh with _ h2; omega)]
    exact hcG i
  · exact World.cell?_setCell_same _ _ _ ((hcG _).trans h.cell)
  · refine own_setCell ho _ _ ?_
    intro e
    have := (ho.lt G e).1
    have := h.rows.gt
    omega
  · rw [World.cell?_setCell_other _ _ _ _ (by intro hh; injection hh with _ h2; omega)]
    exact (hcG i).trans (h.nil i h1 h2)
  · rw [frozen_setCell, hfG]
    exact h.free o
end Go.Proofs.Ythmmfghcfgbblaa
