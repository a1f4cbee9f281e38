/- Things can't be ordered just if one of them is above itself: plain. -/
import Derived.Test.YthmmfghcfgbblaaGr13
set_option linter.unusedSimpArgs false
set_option linter.unusedVariables false
namespace Go.Proofs.Ythmmfghcfgbblaa
open Go.RowKit Go.Sort Go.Lib

theorem check_ne13 {ns : List Tx} {nd : List (List Tx)} {n e : Int} (h : CheckIs ns nd n e) : e ≠ 13 := by
  rcases h with ⟨_, _, rfl⟩ | ⟨_, ⟨_, _, _, _, _, rfl⟩ | ⟨_, ⟨_, _, _, _, _, rfl⟩ | ⟨_, _, rfl⟩⟩⟩ <;> decide
theorem OrdRun.nodup {E : List (List Nat)} {l : List Nat} (h : OrdRun E l) : l.Nodup := by
  induction h with
  | nil => exact List.nodup_nil
  | snoc h hi ih =>
    rw [List.nodup_append]
    exact ⟨ih, by simp, fun a ha b hb e => hi.1.2.1 (by rw [List.mem_singleton] at hb; rw [← hb, ← e]; exact ha)⟩
theorem OrdRun.lt {E : List (List Nat)} {l : List Nat} (h : OrdRun E l) : ∀ k ∈ l, k < E.length := fun k hk => by
  obtain ⟨i, hi, rfl⟩ := List.getElem_of_mem hk
  exact (h.at_ i hi).1.1
theorem OrdRun.full {E : List (List Nat)} {l : List Nat} (h : OrdRun E l) (hl : l.length = E.length) (i : Nat) (hi : i < E.length) : i ∈ l := by
  refine Classical.byContradiction fun hn => ?_
  have := len_subN (i :: l) (List.range E.length) (List.nodup_cons.2 ⟨hn, h.nodup⟩) (fun x hx => by
    rcases List.mem_cons.1 hx with rfl | hx
    · exact List.mem_range.2 hi
    · exact List.mem_range.2 (h.lt x hx))
  simp at this
  omega
/-- in an order none is above itself -/
theorem OrdRun.noRound {E : List (List Nat)} {l : List Nat} (h : OrdRun E l) (hl : l.length = E.length) (i : Nat) : ¬ Reach E i i := by
  have step : ∀ a b : Nat, ∀ r, E[a]? = some r → b ∈ r → l.idxOf b < l.idxOf a := by
    intro a b r hr hb
    have ha : a ∈ l := h.full hl a (List.getElem?_eq_some_iff.1 hr).1
    have hp : l.idxOf a < l.length := List.idxOf_lt_length_iff.2 ha
    have e : l[l.idxOf a]'hp = a := List.getElem_idxOf hp
    have hn := (h.at_ _ hp).1.2.2 r (by rw [e]; exact hr) b hb
    have h2 : (l.take (l.idxOf a)).idxOf b < (l.take (l.idxOf a)).length := List.idxOf_lt_length_iff.2 hn
    have h3 : l.idxOf b = (l.take (l.idxOf a)).idxOf b := by
      conv => lhs; rw [← List.take_append_drop (l.idxOf a) l]
      rw [List.idxOf_append, if_pos hn]
    have h4 := List.length_take_le (l.idxOf a) l
    omega
  have key : ∀ k, Reach E i k → l.idxOf k < l.idxOf i := by
    intro k hk
    induction hk with
    | one h1 h2 => exact step _ _ _ h1 h2
    | step _ h1 h2 ih => exact Nat.lt_trans (step _ _ _ h1 h2) ih
  intro hr
  exact Nat.lt_irrefl _ (key i hr)
/-- where nothing is ready, one is above itself -/
theorem round_of_stuck {E : List (List Nat)} {o : List Nat} (hE : ∀ i (hi : i < E.length), ∀ k ∈ E[i]'hi, k < E.length) (hn : ∀ i, ¬ Ready E o i) {i0 : Nat} (h0 : i0 < E.length) (h0o : i0 ∉ o) :
    ∃ i, i < E.length ∧ Reach E i i := by
  have next : ∀ i : Nat, ∃ k : Nat, (i < E.length ∧ i ∉ o) → (k < E.length ∧ k ∉ o) ∧ Reach E i k ∧ ∀ j, Reach E j i → Reach E j k := by
    intro i
    by_cases hi : i < E.length ∧ i ∉ o
    · have h1 := hn i
      have h2 : ∃ k ∈ E[i]'hi.1, k ∉ o := Classical.byContradiction fun hc => h1 ⟨hi.1, hi.2, fun l hl k hk => Classical.byContradiction fun hk2 => hc ⟨k, by rw [List.getElem?_eq_getElem hi.1] at hl; cases hl; exact hk, hk2⟩⟩
      obtain ⟨k, hk, hko⟩ := h2
      exact ⟨k, fun _ => ⟨⟨hE i hi.1 k hk, hko⟩, .one (List.getElem?_eq_getElem hi.1) hk, fun j hj => .step hj (List.getElem?_eq_getElem hi.1) hk⟩⟩
    · exact ⟨0, fun h => absurd h hi⟩
  obtain ⟨f, hf⟩ : ∃ f : Nat → Nat, ∀ i, (i < E.length ∧ i ∉ o) → (f i < E.length ∧ f i ∉ o) ∧ Reach E i (f i) ∧ ∀ j, Reach E j i → Reach E j (f i) :=
    ⟨fun i => (next i).choose, fun i => (next i).choose_spec⟩
  let x : Nat → Nat := fun n => Nat.rec i0 (fun _ y => f y) n
  have hx : ∀ n, x n < E.length ∧ x n ∉ o := by
    intro n
    induction n with
    | zero => exact ⟨h0, h0o⟩
    | succ n ih => exact (hf _ ih).1
  have hxr : ∀ a d, Reach E (x a) (x (a + (d + 1))) := by
    intro a d
    induction d with
    | zero => exact (hf _ (hx a)).2.1
    | succ d ih => exact (hf _ (hx (a + (d + 1)))).2.2 _ ih
  refine Classical.byContradiction fun hc => ?_
  have hnd : ((List.range (E.length + 1)).map x).Nodup := by
    refine List.pairwise_map.2 (List.pairwise_lt_range.imp (fun {a b} hab e => ?_))
    obtain ⟨d, rfl⟩ : ∃ d, b = a + (d + 1) := ⟨b - a - 1, by omega⟩
    have := hxr a d
    rw [← e] at this
    exact hc ⟨x a, (hx a).1, this⟩
  have := len_subN _ (List.range E.length) hnd (fun y hy => by
    obtain ⟨n, _, rfl⟩ := List.mem_map.1 hy
    exact List.mem_range.2 (hx n).1)
  simp at this
  omega
theorem above_ok {ns : List Tx} {nd : List (List Tx)} {i : Nat} {l : List Nat} {f : Int} (hc : CheckIs ns nd 0 0) (h : AboveIs ns nd (i : Int) l f) (hi : i < ns.length) : f = 0 ∧ ∀ k, k ∈ l ↔ Reach (edgesL ns nd) i k := by
  obtain ⟨n0, e0, hc', h⟩ := h
  obtain ⟨rfl, rfl⟩ := hc.unique hc'
  rcases h with ⟨hz, _⟩ | ⟨_, ⟨hb, _⟩ | ⟨m, hm, _, _, hk, rfl⟩⟩
  · exact absurd rfl hz
  · exact absurd ⟨by omega, by omega⟩ hb
  · obtain rfl : i = m := by omega
    exact ⟨rfl, hk⟩
/-- an order: none is above itself -/
theorem order_fine {ns : List Tx} {nd : List (List Tx)} {l : List Nat} {n : Int} (h : OrderIs ns nd l n 0) : CheckIs ns nd 0 0 ∧ n = 0 ∧ ∀ i, ¬ Reach (edgesL ns nd) i i := by
  obtain ⟨n0, e0, hc, h⟩ := h
  rcases h with ⟨hz, _, _, h0⟩ | ⟨rfl, h⟩
  · exact absurd h0.symm hz
  obtain ⟨hlen, h4, rfl, hall⟩ := check0 hc
  rcases h with ⟨hr, hl, rfl, _⟩ | ⟨_, h13, _⟩
  · exact ⟨hc, rfl, hr.noRound (by rw [edges_len]; omega)⟩
  · exact absurd h13 (by decide)
/-- a round: one is above itself -/
theorem order_round {ns : List Tx} {nd : List (List Tx)} {l : List Nat} {n : Int} (h : OrderIs ns nd l n 13) : CheckIs ns nd 0 0 ∧ (∃ m : Nat, n = m ∧ m < ns.length) ∧ ∃ i, i < ns.length ∧ Reach (edgesL ns nd) i i := by
  obtain ⟨n0, e0, hc, h⟩ := h
  rcases h with ⟨hz, _, _, h0⟩ | ⟨rfl, h⟩
  · exact absurd h0.symm (check_ne13 hc)
  obtain ⟨hlen, h4, rfl, hall⟩ := check0 hc
  rcases h with ⟨_, _, _, h13⟩ | ⟨_, _, o, hr, ho, hn, m, rfl, hm, hmo, _⟩
  · exact absurd h13 (by decide)
  · have hEl : (edgesL ns nd).length = ns.length := by rw [edges_len]; omega
    obtain ⟨i, hi, hri⟩ := round_of_stuck (E := edgesL ns nd) (o := o) (fun i hi k hk => by rw [hEl]; exact edges_lt hall hi k hk) hn (i0 := m) (by omega) hmo
    exact ⟨hc, ⟨m, rfl, hm⟩, i, by omega, hri⟩
end Go.Proofs.Ythmmfghcfgbblaa
