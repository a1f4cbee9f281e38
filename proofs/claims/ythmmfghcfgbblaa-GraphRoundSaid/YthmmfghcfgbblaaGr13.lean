/- A set of names as a map; what an order gives. -/
import Derived.Test.YthmmfghcfgbblaaGr12
set_option linter.unusedSimpArgs false
set_option linter.unusedVariables false
namespace Go.Proofs.Ythmmfghcfgbblaa
open Go.RowKit Go.Sort Go.Lib Go.ChangeMaps Go.WideShapes

/-- block b is a map of the names that stand there -/
def MapT (w : World) (b : Nat) (S : List Tx) : Prop :=
  ∃ D : DataW Unit, w.ownsMap Try.prog 9 (plainElem Try.prog 4) b S.length D ∧ ∀ s : Tx, (Maps.has D (.string s) = S.contains s) ∧ (s ∈ S → ∀ z, D.atKey (.string s) z = .lit (.bool true))
theorem MapT.made (w : World) : MapT (w.alloc (.map #[] 0)) w.heap.size [] :=
  ⟨.map [], World.ownsMap_made w _ _ _, fun s => ⟨by rw [Maps.has_eq]; rfl, fun h => by cases h⟩⟩
theorem MapT.look {w : World} {b : Nat} {S : List Tx} (h : MapT w b S) (s : Tx) (hs : s.length ≤ 9223372036854775807) :
    (Instr.lookup 34 (.map (some b)) (encStr s) false).run Try.prog w = .ok (.bool (S.contains s)) w := by
  obtain ⟨D, h1, h2⟩ := h
  obtain ⟨v, ps, hrun, hv⟩ := h1.lookup (Maps.string_keyed Try.underlying9) (t := 34) Try.underlying34 (zBool w) (zd := .lit (.bool false)) (zp := []) (plainElem_bool Try.underlying4 false) (keyT s hs)
  obtain ⟨x, rfl, hx⟩ := plainElem_bool_inv Try.underlying4 hv
  rw [hrun]
  have hx1 := congrArg Prod.fst hx
  dsimp only at hx1
  cases hc : S.contains s
  · have hno : Maps.has D (.string s) = false := by rw [(h2 s).1, hc]
    rw [Maps.atKey_of_not_has hno] at hx1
    injection hx1 with hx1
    injection hx1 with hx1
    rw [hx1]
  · rw [(h2 s).2 (List.contains_iff_mem.1 hc)] at hx1
    injection hx1 with hx1
    injection hx1 with hx1
    rw [hx1]
theorem MapT.store {w : World} {b : Nat} {S : List Tx} (h : MapT w b S) (s : Tx) (hs : s.length ≤ 9223372036854775807) (hn : (S.length : Int) < 9223372036854775807) (hns : s ∉ S) :
    ∃ w', (Instr.mapUpdate 34 (.map (some b)) (encStr s) (.bool true)).run Try.prog w = .ok () w' ∧ MapT w' b (S ++ [s]) ∧ w.grownBy w' (some b) := by
  obtain ⟨D, h1, h2⟩ := h
  obtain ⟨w', hrun, ho, ht⟩ := h1.store (Maps.string_keyed Try.underlying9) (t := 34) Try.underlying34 (by unfold maxLen; omega) (keyT s hs) (plainElem_bool Try.underlying4 true)
  refine ⟨w', hrun, ⟨_, by rw [List.length_append]; exact ho, fun t => ?_⟩, ht.grown⟩
  by_cases e : t = s
  · subst e
    refine ⟨?_, fun _ z => ?_⟩
    · rw [Maps.has_put_same h1.isMap (show WideAt.IsKeyLit (.string t) from trivial)]; simp
    · exact Maps.atKey_put_same h1.isMap (show WideAt.IsKeyLit (.string t) from trivial) _ _
  · have hne : (Lit.string t) ≠ (Lit.string s) := fun h => e (by injection h)
    refine ⟨?_, fun hm z => ?_⟩
    · rw [Maps.has_put_other hne, (h2 t).1, Bool.eq_iff_iff]
      simp [e]
    · have hm2 : t ∈ S := by
        rcases List.mem_append.1 hm with h | h
        · exact h
        · exact absurd (List.mem_singleton.1 h) e
      rw [Maps.atKey_put_other hne]
      exact (h2 t).2 hm2 z

theorem OrdRun.at_ {E : List (List Nat)} {l : List Nat} (h : OrdRun E l) : ∀ i (hi : i < l.length), NextIs E (l.take i) (l[i]'hi) := by
  induction h with
  | nil => intro i hi; simp at hi
  | snoc h hi ih =>
    rename_i o k
    intro i hi2
    by_cases h1 : i < o.length
    · rw [List.take_append_of_le_length (by omega), List.getElem_append_left h1]
      exact ih i h1
    · have h2 : i = o.length := by simp at hi2; omega
      subst h2
      rw [List.take_left', List.getElem_append_right (by omega)]
      · simpa using hi
      · rfl
/-- the name of a number -/
def nmOf (ns : List Tx) (k : Nat) : Tx := ns.getD k []
theorem nm_at {ns : List Tx} {k : Nat} (h : k < ns.length) : ns[k]'h = nmOf ns k := by
  unfold nmOf
  rw [List.getD_eq_getElem?_getD, List.getElem?_eq_getElem h, Option.getD_some]
theorem nm_inj {ns : List Tx} (hd : ∀ j, j < ns.length → ¬ dupAt ns j) {a b : Nat} (ha : a < ns.length) (hb : b < ns.length) (h : nmOf ns a = nmOf ns b) : a = b := by
  have key : ∀ {a b : Nat}, a < b → b < ns.length → nmOf ns a ≠ nmOf ns b := by
    intro a b hab hb h
    refine hd b hb ⟨nmOf ns b, ?_, ?_⟩
    · rw [List.getElem?_eq_getElem hb, nm_at hb]
    · rw [← h, List.mem_take_iff_getElem]
      exact ⟨a, by omega, nm_at (by omega)⟩
  rcases Nat.lt_trichotomy a b with h1 | h1 | h1
  · exact absurd h (key h1 hb)
  · exact h1
  · exact absurd h.symm (key h1 ha)
theorem nm_idx {ns : List Tx} {s : Tx} (h : s ∈ ns) : nmOf ns (ns.idxOf s) = s := by
  have hl : ns.idxOf s < ns.length := List.idxOf_lt_length_iff.2 h
  rw [← nm_at hl, List.getElem_idxOf hl]
/-- what an order of things gives: each once, behind what it needs -/
theorem order_gives {ns : List Tx} {nd : List (List Tx)} {l : List Nat} {n : Int} (h : OrderIs ns nd l n 0) :
    l.length = ns.length ∧ nd.length = ns.length ∧ ns.length ≤ 4096 ∧ (∀ i (hi : i < l.length), l[i]'hi < ns.length) ∧
    (∀ i (hi : i < l.length), nmOf ns (l[i]'hi) ∉ (l.take i).map (nmOf ns)) ∧
    (∀ i (hi : i < l.length), ∀ r, nd[l[i]'hi]? = some r → ∀ s ∈ r, s ∈ (l.take i).map (nmOf ns)) := by
  obtain ⟨n0, e0, hc, h⟩ := h
  rcases h with ⟨hz, _, _, h0⟩ | ⟨rfl, h⟩
  · exact absurd h0.symm hz
  rcases h with ⟨hr, hl, rfl, _⟩ | ⟨_, h13, _⟩
  rotate_left 1
  · exact absurd h13 (by decide)
  obtain ⟨hlen, h4, rfl, hall⟩ := check0 hc
  have hnd : ∀ j, j < ns.length → ¬ dupAt ns j := by
    rcases hc with ⟨_, _, h⟩ | ⟨_, ⟨_, _, _, _, _, h⟩ | ⟨h, _⟩⟩
    · exact absurd h (by decide)
    · exact absurd h (by decide)
    · exact h
  have hEl : (edgesL ns nd).length = nd.length := edges_len ns nd
  have hlt : ∀ i (hi : i < l.length), l[i]'hi < ns.length := fun i hi => by
    have := (hr.at_ i hi).1.1
    omega
  have hlt2 : ∀ k ∈ l, k < ns.length := fun k hk => by
    obtain ⟨i, hi, rfl⟩ := List.getElem_of_mem hk
    exact hlt i hi
  refine ⟨hl, hlen.symm, h4, hlt, ?_, ?_⟩
  · intro i hi hm
    obtain ⟨k, hk, e⟩ := List.mem_map.1 hm
    have := nm_inj hnd (hlt2 k (List.mem_of_mem_take hk)) (hlt i hi) e
    subst this
    exact (hr.at_ i hi).1.2.1 hk
  · intro i hi r hrow s hs
    have he : (edgesL ns nd)[l[i]'hi]? = some (r.map fun s => ns.idxOf s) := by
      unfold edgesL
      rw [List.getElem?_map, hrow]
      rfl
    have hk := (hr.at_ i hi).1.2.2 _ he (ns.idxOf s) (List.mem_map.2 ⟨s, hs, rfl⟩)
    exact List.mem_map.2 ⟨_, hk, nm_idx (hall r (List.mem_of_getElem? hrow) s hs)⟩
theorem order_wrong {ns : List Tx} {nd : List (List Tx)} {l : List Nat} {n e : Int} (h : OrderIs ns nd l n e) (he : e ≠ 0) : l = [] := by
  obtain ⟨n0, e0, _, h⟩ := h
  rcases h with ⟨_, h, _⟩ | ⟨_, ⟨_, _, _, h⟩ | ⟨h, _⟩⟩
  · exact h
  · exact absurd h he
  · exact h
end Go.Proofs.Ythmmfghcfgbblaa
