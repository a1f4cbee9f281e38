/- From the arguments' readings to things and what they need. -/
import Derived.Test.YthmmfghcfgbblaaOpenL
import Derived.Test.YthmmfghcfgbblaaGr0
set_option linter.unusedSimpArgs false
set_option linter.unusedVariables false
namespace Go.Proofs.Ythmmfghcfgbblaa
open Go.RowKit Go.ChangeShapes Go.WideShapes Go.Deep
section
variable {H : Type} {enc : TypeId × Value → H} {w : World} {base : Nat} {held : Bool} {fuel : Nat} {cs : List Value} {y : DataW H × List MemPlace}
theorem cStr : Try.prog.cellsOf 9 = 1 := by kernel_rfl
theorem cSl : Try.prog.cellsOf 22 = 1 := by kernel_rfl
theorem open_text (h : DataW.trod enc Try.prog w base (fun _ => true) held fuel 9 cs = some y) : ∃ t : Tx, cs = tC t ∧ t.length ≤ 9223372036854775807 := by
  obtain ⟨s, rfl, _, hs⟩ := DataW.trod_string Try.underlying9 h
  refine ⟨s.data.toList, ?_, ?_⟩
  · show [Value.string s] = [Value.string ⟨s.data.toList.toArray⟩]
    simp
  · unfold maxLen at hs
    have : s.data.toList.length = s.size := Array.length_toList
    omega
theorem open_texts (h : DataW.trod enc Try.prog w base (fun _ => true) held fuel 22 cs = some y) :
    ∃ (A : Option Addr) (l : List Tx) (c : Nat), cs = [.slice A l.length c] ∧ RdL w 1 A (l.map tC) ∧ (∀ t ∈ l, t.length ≤ 9223372036854775807) ∧ l.length ≤ 9223372036854775807 := by
  obtain ⟨A, l, c, e0, r, q, hl, hc⟩ := open_list tC (fun t => t.length ≤ 9223372036854775807) Try.underlying22 cStr (by decide) (fun _ _ _ h => open_text h) h
  exact ⟨A, l, c, e0, r, q, hl⟩
theorem open_needs (h : DataW.trod enc Try.prog w base (fun _ => true) held fuel 23 cs = some y) :
    ∃ (D : Option Addr) (xs : List TxAt) (c : Nat), cs = [.slice D xs.length c] ∧ RdL w 1 D (xs.map TxAt.cells) ∧ (∀ x ∈ xs, x.ok w) ∧ xs.length ≤ 9223372036854775807 := by
  obtain ⟨A, l, c, e0, r, q, hl, hc⟩ := open_list TxAt.cells (fun x => x.ok w) Try.underlying23 cSl (by decide) (fun _ _ _ h => by
    obtain ⟨A, l, c, e, hr, hs, hl⟩ := open_texts h
    exact ⟨⟨l, A, c⟩, e, hr, hl, hs⟩) h
  exact ⟨A, l, c, e0, r, q, hl⟩
theorem arg_texts {d : DataW H} {v : Value} {p : List MemPlace} {W : World} {b : Nat} (hv : Value.okWide Try.prog W .any b 22 v) (h : DataW.Trod enc Try.prog W 0 (fun _ => true) true 22 v d p) :
    ∃ (A : Option Addr) (l : List Tx) (c : Nat), v = .slice A l.length c ∧ RdL W 1 A (l.map tC) ∧ (∀ t ∈ l, t.length ≤ 9223372036854775807) ∧ l.length ≤ 9223372036854775807 := by
  obtain ⟨n0, o0⟩ := arg_slice Try.underlying22 hv h
  obtain ⟨A, l, c, e0, r, q, hl⟩ := open_texts o0
  exact ⟨A, l, c, List.cons.inj e0 |>.1, r, q, hl⟩
theorem arg_needs {d : DataW H} {v : Value} {p : List MemPlace} {W : World} {b : Nat} (hv : Value.okWide Try.prog W .any b 23 v) (h : DataW.Trod enc Try.prog W 0 (fun _ => true) true 23 v d p) :
    ∃ (D : Option Addr) (xs : List TxAt) (c : Nat), v = .slice D xs.length c ∧ RdL W 1 D (xs.map TxAt.cells) ∧ (∀ x ∈ xs, x.ok W) ∧ xs.length ≤ 9223372036854775807 := by
  obtain ⟨n0, o0⟩ := arg_slice Try.underlying23 hv h
  obtain ⟨A, l, c, e0, r, q, hl⟩ := open_needs o0
  exact ⟨A, l, c, List.cons.inj e0 |>.1, r, q, hl⟩
end
end Go.Proofs.Ythmmfghcfgbblaa
