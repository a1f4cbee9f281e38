/- From the arguments' readings to spans. -/
import Derived.Test.YthdbbefiebolbaaOpenL
import Derived.Test.YthdbbefiebolbaaSpans1
set_option linter.unusedSimpArgs false
set_option linter.unusedVariables false
namespace Go.Proofs.Ythdbbefiebolbaa
open Go.RowKit Go.ChangeShapes Go.WideShapes Go.Deep
section
variable {H : Type} {enc : TypeId × Value → H} {w : World} {base : Nat} {held : Bool} {fuel : Nat} {cs : List Value} {y : DataW H × List MemPlace}
theorem cI : Try.prog.cellsOf 3 = 1 := by kernel_rfl
theorem cSp : Try.prog.cellsOf 35 = 2 := by kernel_rfl
theorem open_span (h : DataW.trod enc Try.prog w base (fun _ => true) held fuel 35 cs = some y) : ∃ s : Sp, cs = spC s ∧ SpWf s := by
  obtain ⟨xs, n, rfl, rfl, hl, hlen, hf⟩ := DataW.trod_struct Try.underlying35 h
  rw [cSp] at hl
  obtain ⟨y0, e0⟩ := getx hlen (i := 0) (by decide)
  obtain ⟨y1, e1⟩ := getx hlen (i := 1) (by decide)
  obtain ⟨a, ca, _, wa⟩ := DataW.trod_int Try.underlying3 ((hf 0 _ rfl).trans e0)
  obtain ⟨b, cb, _, wb⟩ := DataW.trod_int Try.underlying3 ((hf 1 _ rfl).trans e1)
  match cs, hl with
  | [x0, x1], _ =>
    simp [cI] at ca cb
    have h1 := bounds_i64 wa
    have h2 := bounds_i64 wb
    exact ⟨(a, b), by rw [ca, cb]; rfl, ⟨by have := h1.1; simpa using this, by have := h1.2; simpa using this, by have := h2.1; simpa using this, by have := h2.2; simpa using this⟩⟩
/-- a list of spans as an argument -/
theorem arg_spans {d : DataW H} {v : Value} {p : List MemPlace} {W : World} {b : Nat} (hv : Value.okWide Try.prog W .any b 22 v) (h : DataW.Trod enc Try.prog W 0 (fun _ => true) true 22 v d p) :
    ∃ (A : Option Addr) (l : List Sp) (c : Nat), v = .slice A l.length c ∧ RdL W 2 A (l.map spC) ∧ (∀ s ∈ l, SpWf s) ∧ l.length ≤ 9223372036854775807 ∧ l.length ≤ c := by
  obtain ⟨n0, o0⟩ := arg_slice Try.underlying22 hv h
  obtain ⟨A, l, c, e0, r, q, hl, hc⟩ := open_list spC SpWf Try.underlying22 cSp (by decide) (fun _ _ _ h => open_span h) o0
  exact ⟨A, l, c, List.cons.inj e0 |>.1, r, q, hl, hc⟩
end
end Go.Proofs.Ythdbbefiebolbaa
