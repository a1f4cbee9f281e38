/- Things and what they need: plain. -/
import Derived.Test.YthmmfghcfgbblaaBase
import Derived.Test.YthmmfghcfgbblaaRead
import Derived.Sort.EncStr
set_option linter.unusedSimpArgs false
set_option linter.unusedVariables false
namespace Go.Proofs.Ythmmfghcfgbblaa
open Go.RowKit Go.Lib

abbrev Tx := List UInt8
def tC (t : Tx) : List Value := [encStr t]
def iC (n : Nat) : List Value := [.int .i64 (n : Int)]
theorem beqT (x t : Tx) : (x == t) = decide (x = t) := by rw [Bool.eq_iff_iff]; simp
/-- a list where it lies -/
structure TxAt where
  l : List Tx
  A : Option Addr
  c : Nat
def TxAt.cells (x : TxAt) : List Value := [.slice x.A x.l.length x.c]
structure TxAt.ok (x : TxAt) (w : World) : Prop where
  rd : RdL w 1 x.A (x.l.map tC)
  len : x.l.length ≤ 9223372036854775807
  str : ∀ t ∈ x.l, t.length ≤ 9223372036854775807
theorem TxAt.ok.below {x : TxAt} {w w' : World} (h : x.ok w) (hb : Below w.heap.size w w') : x.ok w' := ⟨h.rd.below hb, h.len, h.str⟩

/-- a name stands there before -/
def dupAt (ns : List Tx) (i : Nat) : Prop := ∃ s, ns[i]? = some s ∧ s ∈ ns.take i
/-- a thing needs what is none -/
def missAt (ns : List Tx) (nd : List (List Tx)) (i : Nat) : Prop := ∃ l, nd[i]? = some l ∧ ∃ s ∈ l, s ∉ ns
/-- what is wrong, but for cycles -/
def CheckIs (ns : List Tx) (nd : List (List Tx)) (n e : Int) : Prop :=
  ((ns.length ≠ nd.length ∨ 4096 < ns.length) ∧ n = 0 ∧ e = 1) ∨
  (¬ (ns.length ≠ nd.length ∨ 4096 < ns.length) ∧
    ((∃ i : Nat, i < ns.length ∧ dupAt ns i ∧ (∀ j, j < i → ¬ dupAt ns j) ∧ n = i ∧ e = 7) ∨
     ((∀ j, j < ns.length → ¬ dupAt ns j) ∧
      ((∃ i : Nat, i < nd.length ∧ missAt ns nd i ∧ (∀ j, j < i → ¬ missAt ns nd j) ∧ n = i ∧ e = 12) ∨
       ((∀ j, j < nd.length → ¬ missAt ns nd j) ∧ n = 0 ∧ e = 0)))))
theorem least_unique {p : Nat → Prop} {i k : Nat} (h1 : p i) (h2 : ∀ j, j < i → ¬ p j) (h3 : p k) (h4 : ∀ j, j < k → ¬ p j) : i = k := by
  rcases Nat.lt_trichotomy i k with h | h | h
  · exact absurd h1 (h4 i h)
  · exact h
  · exact absurd h3 (h2 k h)
theorem CheckIs.unique {ns : List Tx} {nd : List (List Tx)} {n e n' e' : Int} (h : CheckIs ns nd n e) (h' : CheckIs ns nd n' e') : n = n' ∧ e = e' := by
  rcases h with ⟨b, rfl, rfl⟩ | ⟨b, h⟩ <;> rcases h' with ⟨b', rfl, rfl⟩ | ⟨b', h'⟩
  · exact ⟨rfl, rfl⟩
  · exact absurd b b'
  · exact absurd b' b
  · rcases h with ⟨i, hi, d, hd, rfl, rfl⟩ | ⟨nd1, h⟩ <;> rcases h' with ⟨k, hk, d', hd', rfl, rfl⟩ | ⟨nd2, h'⟩
    · exact ⟨by rw [least_unique d hd d' hd'], rfl⟩
    · exact absurd d (nd2 i hi)
    · exact absurd d' (nd1 k hk)
    · rcases h with ⟨i, hi, d, hd, rfl, rfl⟩ | ⟨m1, rfl, rfl⟩ <;> rcases h' with ⟨k, hk, d', hd', rfl, rfl⟩ | ⟨m2, rfl, rfl⟩
      · exact ⟨by rw [least_unique d hd d' hd'], rfl⟩
      · exact absurd d (m2 i hi)
      · exact absurd d' (m1 k hk)
      · exact ⟨rfl, rfl⟩
/-- the number of a name; -1: it is none -/
def findV (ns : List Tx) (s : Tx) : Int := if s ∈ ns then (ns.idxOf s : Int) else -1
/-- of each thing the numbers of what it needs -/
def edgesL (ns : List Tx) (nd : List (List Tx)) : List (List Nat) := nd.map fun l => l.map fun s => ns.idxOf s
theorem mem_take_of_idx {ns : List Tx} {s : Tx} {i : Nat} (h : s ∈ ns) (hi : ns.idxOf s < i) : s ∈ ns.take i := by
  have hl : ns.idxOf s < ns.length := List.idxOf_lt_length_iff.2 h
  have e : ns[ns.idxOf s]'hl = s := List.getElem_idxOf hl
  rw [List.mem_take_iff_getElem]
  exact ⟨ns.idxOf s, by omega, e⟩
theorem idx_lt_of_mem_take {ns : List Tx} {s : Tx} {i : Nat} (h : s ∈ ns.take i) : ns.idxOf s < i := by
  have h1 : (ns.take i).idxOf s < (ns.take i).length := List.idxOf_lt_length_iff.2 h
  have h2 : ns.idxOf s = (ns.take i).idxOf s := by
    conv => lhs; rw [← List.take_append_drop i ns]
    rw [List.idxOf_append, if_pos h]
  rw [h2]
  have := List.length_take_le i ns
  omega
theorem dupAt_iff {ns : List Tx} {i : Nat} (h : i < ns.length) : dupAt ns i ↔ findV ns (ns[i]'h) < (i : Int) := by
  have hm : ns[i]'h ∈ ns := List.getElem_mem h
  unfold dupAt findV
  rw [if_pos hm]
  constructor
  · rintro ⟨s, hs, ht⟩
    rw [List.getElem?_eq_getElem h] at hs
    obtain rfl := Option.some.inj hs
    have := idx_lt_of_mem_take ht
    omega
  · intro h2
    exact ⟨_, List.getElem?_eq_getElem h, mem_take_of_idx hm (by omega)⟩
end Go.Proofs.Ythmmfghcfgbblaa
