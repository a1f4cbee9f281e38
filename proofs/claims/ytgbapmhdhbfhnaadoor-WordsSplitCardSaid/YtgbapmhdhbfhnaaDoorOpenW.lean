/- From the arguments' readings to texts; how many there may be. -/
import Derived.Test.YtgbapmhdhbfhnaaDoorOpenL
import Derived.Test.YtgbapmhdhbfhnaaDoorWd1
import Derived.SizedLaws
set_option linter.unusedSimpArgs false
set_option linter.unusedVariables false
namespace Go.Proofs.YtgbapmhdhbfhnaaDoor
open Go.RowKit Go.ChangeShapes Go.WideShapes Go.Deep
section
variable {H : Type} {enc : TypeId × Value → H} {w : World} {base : Nat} {held : Bool} {fuel : Nat} {cs : List Value} {y : DataW H × List MemPlace}
theorem cStr : Tryd.prog.cellsOf 9 = 1 := by kernel_rfl
theorem cSl : Tryd.prog.cellsOf 22 = 1 := by kernel_rfl
theorem cBl : Tryd.prog.cellsOf 4 = 1 := by kernel_rfl
theorem cWo : Tryd.prog.cellsOf 24 = 2 := by kernel_rfl
theorem bStr : Tryd.prog.bytesOf 9 = 16 := by kernel_rfl
theorem open_text (h : DataW.trod enc Tryd.prog w base (fun _ => true) held fuel 9 cs = some y) : ∃ t : Tx, cs = tC t ∧ t.length ≤ 9223372036854775807 := by
  obtain ⟨s, rfl, _, hs⟩ := DataW.trod_string Tryd.underlying9 h
  refine ⟨s.data.toList, ?_, ?_⟩
  · show [Value.string s] = [Value.string ⟨s.data.toList.toArray⟩]
    simp
  · unfold maxLen at hs
    have : s.data.toList.length = s.size := Array.length_toList
    omega
/-- what a list of texts reads as: so many texts -/
def TxD (n : Nat) (d : DataW H) : Prop := n = 0 ∨ ∃ (elems spare : List (DataW H)), d = .slice elems spare ∧ elems.length = n
theorem open_texts (h : DataW.trod enc Tryd.prog w base (fun _ => true) held fuel 22 cs = some y) :
    ∃ (A : Option Addr) (l : List Tx) (c : Nat), cs = [.slice A l.length c] ∧ RdL w 1 A (l.map tC) ∧ (∀ t ∈ l, t.length ≤ 9223372036854775807) ∧ l.length ≤ c ∧ TxD l.length y.1 := by
  obtain ⟨A, l, c, e0, r, q, hl, hc⟩ := open_list tC (fun t => t.length ≤ 9223372036854775807) Tryd.underlying22 cStr (by decide) (fun _ _ _ h => open_text h) h
  refine ⟨A, l, c, e0, r, q, hc, ?_⟩
  rcases open_slice Tryd.underlying22 h with ⟨e, _⟩ | ⟨a, len, cap, m, n, D, Pl, e, _, _, _, _, hx, _⟩
  · have := e0.symm.trans e
    injection this with h1 _
    injection h1 with _ h2 _
    exact .inl h2
  · have := e0.symm.trans e
    injection this with h1 _
    injection h1 with _ h2 _
    exact .inr ⟨_, _, by rw [hx], by simp [h2]⟩
theorem arg_texts {d : DataW H} {v : Value} {p : List MemPlace} {W : World} {b : Nat} (hv : Value.okWide Tryd.prog W .any b 22 v) (h : DataW.Trod enc Tryd.prog W 0 (fun _ => true) true 22 v d p) :
    ∃ (A : Option Addr) (l : List Tx) (c : Nat), v = .slice A l.length c ∧ RdL W 1 A (l.map tC) ∧ (∀ t ∈ l, t.length ≤ 9223372036854775807) ∧ TxD l.length d := by
  obtain ⟨n0, o0⟩ := arg_slice Tryd.underlying22 hv h
  obtain ⟨A, l, c, e0, r, q, _, hd⟩ := open_texts o0
  exact ⟨A, l, c, List.cons.inj e0 |>.1, r, q, hd⟩
theorem arg_words {d : DataW H} {v : Value} {p : List MemPlace} {W : World} {b : Nat} (hv : Value.okWide Tryd.prog W .any b 24 v) (h : DataW.Trod enc Tryd.prog W 0 (fun _ => true) true 24 v d p) :
    ∃ (all : Bool) (A : Option Addr) (l : List Tx) (c : Nat), v = .agg #[.bool all, .slice A l.length c] ∧ RdL W 1 A (l.map tC) ∧ (∀ t ∈ l, t.length ≤ 9223372036854775807) ∧ ∃ d0 d1, d = .agg [d0, d1] ∧ TxD l.length d1 := by
  obtain ⟨cs, fuel, rfl, h1⟩ := arg_struct Tryd.underlying24 hv h
  obtain ⟨xs, n, rfl, hx, hl, hlen, hf⟩ := DataW.trod_struct Tryd.underlying24 h1
  rw [cWo] at hl
  obtain ⟨y0, e0⟩ := getx hlen (i := 0) (by decide)
  obtain ⟨y1, e1⟩ := getx hlen (i := 1) (by decide)
  obtain ⟨a, ca, _⟩ := DataW.trod_bool Tryd.underlying4 ((hf 0 _ rfl).trans e0)
  obtain ⟨A, l, c, cb, r, q, _, hd⟩ := open_texts ((hf 1 _ rfl).trans e1)
  have hxs : xs = [y0, y1] := by
    match xs, hlen with
    | [x0, x1], _ => simp at e0 e1; rw [e0, e1]
  match cs, hl with
  | [x0, x1], _ =>
    simp [cBl, cSl] at ca cb
    refine ⟨a, A, l, c, by rw [ca, cb], r, q, y0.1, y1.1, ?_, hd⟩
    have := congrArg Prod.fst hx
    simpa [hxs] using this
theorem arg_text {d : DataW H} {v : Value} {p : List MemPlace} {W : World} {b : Nat} (hv : Value.okWide Tryd.prog W .any b 9 v) (h : DataW.Trod enc Tryd.prog W 0 (fun _ => true) true 9 v d p) :
    ∃ t : Tx, v = encStr t ∧ t.length ≤ 9223372036854775807 := by
  obtain ⟨s, rfl⟩ := okWide_string Tryd.underlying9 hv
  obtain ⟨fuel, hf⟩ := h
  obtain ⟨t, ht, hl⟩ := open_text hf
  exact ⟨t, by simpa [tC, Value.cells] using ht, hl⟩
theorem sized_texts {ts : List TypeId} {ds : List (DataW H)} (h : (DataW.weightsEach Tryd.prog ts ds).all (· ≤ reachBytes) = true) {j n : Nat} {d : DataW H} (ht : ts[j]? = some 22) (hd : ds[j]? = some d) (hn : TxD n d) : n * 16 ≤ 140737488355328 := by
  rcases hn with rfl | ⟨el, sp, rfl, rfl⟩
  · omega
  · have := sized_slice h ht hd Tryd.underlying22
    rw [bStr] at this
    have hb : reachBytes < 140737488355328 := reachBytes_lt
    omega
theorem sized_words {ts : List TypeId} {ds : List (DataW H)} (h : (DataW.weightsEach Tryd.prog ts ds).all (· ≤ reachBytes) = true) {j n : Nat} {d0 d1 : DataW H} (ht : ts[j]? = some 24) (hd : ds[j]? = some (.agg [d0, d1])) (hn : TxD n d1) : n * 16 ≤ 140737488355328 := by
  rcases hn with rfl | ⟨el, sp, rfl, rfl⟩
  · omega
  · have hu := Tryd.underlying24
    have hm : (el.length + sp.length) * Tryd.prog.bytesOf 9 ∈ DataW.weights Tryd.prog 24 (.agg [d0, .slice el sp]) := by
      simp only [DataW.weights, hu]
      refine DataW.weights_mem_each (j := 1) (t := 22) (d := .slice el sp) (by rfl) rfl _ ?_
      simp [DataW.weights, Tryd.underlying22]
    have := List.all_eq_true.1 h _ (DataW.weights_mem_each ht hd _ hm)
    rw [bStr] at this
    have h2 : (el.length + sp.length) * 16 ≤ reachBytes := by simpa using this
    have hb : reachBytes < 140737488355328 := reachBytes_lt
    omega
end
end Go.Proofs.YtgbapmhdhbfhnaaDoor
