import Derived.Test.YtfhmjkdpohepaaaDoorPk04
import Derived.ChangeArms
import Derived.Deep.Slices
import Derived.WideShapes
import Derived.OpenShut
/- From the arguments' readings to Lean data: values, lists of values. -/
set_option linter.unusedSimpArgs false
set_option linter.unusedVariables false
namespace Go.Proofs.YtfhmjkdpohepaaaDoor
open Go.RowKit Go.ChangeShapes Go.WideShapes Go.Deep
set_option maxRecDepth 100000

section
variable {H : Type} {enc : TypeId × Value → H} {w : World} {base : Nat} {held : Bool} {fuel : Nat} {cs : List Value} {y : DataW H × List MemPlace}
theorem getx {α : Type} {xs : List α} {n i : Nat} (h : xs.length = n) (hi : i < n) : ∃ y, xs[i]? = some y := ⟨xs[i]'(by omega), List.getElem?_eq_getElem (by omega)⟩
theorem pick_list {α : Type} {P : Nat → α → Prop} : ∀ (n : Nat), (∀ i, i < n → ∃ t, P i t) → ∃ l : List α, l.length = n ∧ ∀ i (h : i < l.length), P i (l[i]'h)
  | 0, _ => ⟨[], rfl, fun i h => absurd h (by simp)⟩
  | n + 1, h => by
    obtain ⟨l, hl, hp⟩ := pick_list n (fun i hi => h i (by omega))
    obtain ⟨t, ht⟩ := h n (by omega)
    refine ⟨l ++ [t], by simp [hl], fun i hi => ?_⟩
    by_cases h' : i < l.length
    · rw [List.getElem_append_left h']; exact hp i h'
    · have hi2 : i < l.length + 1 := by simpa using hi
      obtain rfl : i = l.length := by omega
      rw [List.getElem_append_right (by omega)]
      simpa [hl] using ht
theorem cI : Tryd.prog.cellsOf 3 = 1 := by kernel_rfl
theorem cS : Tryd.prog.cellsOf 9 = 1 := by kernel_rfl
theorem cD : Tryd.prog.cellsOf 24 = 2 := by kernel_rfl
theorem cV : Tryd.prog.cellsOf 26 = 5 := by kernel_rfl

theorem open_dec (h : DataW.trod enc Tryd.prog w base (fun _ => true) held fuel 24 cs = some y) : ∃ a b, cs = [.int .i64 a, .int .i64 b] ∧ I64 a ∧ I64 b := by
  obtain ⟨xs, n, rfl, rfl, hl, hlen, hf⟩ := DataW.trod_struct Tryd.underlying24 h
  rw [cD] at hl
  obtain ⟨y0, e0⟩ := getx hlen (i := 0) (by decide)
  obtain ⟨y1, e1⟩ := getx hlen (i := 1) (by decide)
  obtain ⟨a, ca, _, wa⟩ := DataW.trod_int Tryd.underlying3 ((hf 0 _ rfl).trans e0)
  obtain ⟨b, cb, _, wb⟩ := DataW.trod_int Tryd.underlying3 ((hf 1 _ rfl).trans e1)
  match cs, hl with
  | [x0, x1], _ =>
    simp [cI] at ca cb
    exact ⟨a, b, by rw [ca, cb], bounds_i64 wa, bounds_i64 wb⟩

set_option maxHeartbeats 800000 in
theorem open_val (h : DataW.trod enc Tryd.prog w base (fun _ => true) held fuel 26 cs = some y) : ∃ v : Vl, cs = v.cells5 ∧ v.wf := by
  obtain ⟨xs, n, rfl, rfl, hl, hlen, hf⟩ := DataW.trod_struct Tryd.underlying26 h
  rw [cV] at hl
  obtain ⟨y0, e0⟩ := getx hlen (i := 0) (by decide)
  obtain ⟨y1, e1⟩ := getx hlen (i := 1) (by decide)
  obtain ⟨y2, e2⟩ := getx hlen (i := 2) (by decide)
  obtain ⟨y3, e3⟩ := getx hlen (i := 3) (by decide)
  obtain ⟨k, ck, _, wk⟩ := DataW.trod_int Tryd.underlying3 ((hf 0 _ rfl).trans e0)
  obtain ⟨a, b, cd, wa, wb⟩ := open_dec ((hf 1 _ rfl).trans e1)
  obtain ⟨t, ct, _, wt⟩ := DataW.trod_string Tryd.underlying9 ((hf 2 _ rfl).trans e2)
  obtain ⟨i, ci, _, wi⟩ := DataW.trod_int Tryd.underlying3 ((hf 3 _ rfl).trans e3)
  match cs, hl with
  | [x0, x1, x2, x3, x4], _ =>
    simp [cI, cD, cS] at ck cd ct ci
    exact ⟨⟨k, a, b, t, i⟩, by rw [ck, cd.1, cd.2, ct, ci]; rfl, ⟨bounds_i64 wk, wa, wb, bounds_i64 wi, wt⟩⟩

theorem add_none {a : Addr} {i : Nat} : (a.add i).spot = none → i ≠ 0 ∨ a.spot = none := by
  intro h
  by_cases hi : i = 0
  · right; simpa [Addr.add, hi] using h
  · exact Or.inl hi

set_option maxHeartbeats 800000 in
theorem open_list {α : Type} {t e : TypeId} {sz : Nat} (f : α → List Value) (Q : α → Prop) (ht : Tryd.prog.underlying t = some (.slice e)) (hc : Tryd.prog.cellsOf e = sz) (hsz : 0 < sz)
    (he : ∀ n cs' y', DataW.trod enc Tryd.prog w base (fun _ => true) held n e cs' = some y' → ∃ x : α, cs' = f x ∧ Q x)
    (h : DataW.trod enc Tryd.prog w base (fun _ => true) held fuel t cs = some y) :
    ∃ (A : Option Addr) (xs : List α) (cap : Nat), cs = [.slice A xs.length cap] ∧ RdL w sz A (xs.map f) ∧ (∀ x ∈ xs, Q x) ∧ xs.length ≤ 9223372036854775807 ∧ xs.length ≤ cap := by
  rcases open_slice ht h with ⟨rfl, rfl⟩ | ⟨a, len, cap, m, n, D, Pl, rfl, hb, hl, hm, hmm, rfl, hx⟩
  · exact ⟨none, [], 0, rfl, fun j c hj => by simp at hj, fun x hx => by simp at hx, by simp, by simp⟩
  rw [hc] at hx
  obtain ⟨xs, hxl, hxs⟩ := pick_list (P := fun i x => w.cells? base (a.add (i * sz)) sz = some (f x) ∧ Q x) len (fun i hi => by
    obtain ⟨cs', h1, h2⟩ := hx i (by simp at hmm; omega)
    obtain ⟨x, rfl, hq⟩ := he _ _ _ h2
    exact ⟨x, h1, hq⟩)
  subst hxl
  refine ⟨some a, xs, cap, rfl, ?_, ?_, by unfold maxLen at hm; omega, hl⟩
  · intro j c hj
    rw [List.getElem?_map, Option.map_eq_some_iff] at hj
    obtain ⟨x, hx1, rfl⟩ := hj
    obtain ⟨hjl, rfl⟩ := List.getElem?_eq_some_iff.1 hx1
    have hspot : a.spot = none := by
      have h0 : 0 < xs.length := by omega
      obtain ⟨_, hlen, hcell⟩ := World.cells?_some (hxs 0 h0).1
      have := hcell 0 hsz
      rw [List.getElem?_eq_getElem (by omega)] at this
      simpa [Addr.add] using World.cell?_spot this
    obtain ⟨b, off, spot⟩ := a
    subst hspot
    refine ⟨b, off, rfl, fun i v hv => ?_⟩
    obtain ⟨_, hlen, hcell⟩ := World.cells?_some (hxs j hjl).1
    have hi : i < sz := by have := (List.getElem?_eq_some_iff.1 hv).1; omega
    have := hcell i hi
    rw [add_add] at this
    rw [hv] at this
    by_cases hz : j * sz + i = 0
    · rw [hz] at this
      rw [show off + j * sz + i = off by omega]
      simpa [Addr.add] using this
    · rw [show off + j * sz + i = off + (j * sz + i) by omega]
      unfold Addr.add at this
      rw [if_neg hz] at this
      exact this
  · intro x hx
    obtain ⟨i, hi, rfl⟩ := List.getElem_of_mem hx
    exact (hxs i hi).2

/-- the arguments' outer forms -/
theorem arg_struct {t : TypeId} {fs : Array Field} {d : DataW H} {v : Value} {p : List MemPlace} {W : World} {base : Nat} (ht : Tryd.prog.underlying t = some (.struct fs)) (hv : Value.okWide Tryd.prog W .any base t v) (h : DataW.Trod enc Tryd.prog W 0 (fun _ => true) true t v d p) :
    ∃ cs fuel, v = .agg cs.toArray ∧ DataW.trod enc Tryd.prog W 0 (fun _ => true) true fuel t cs = some (d, p) := by
  obtain ⟨cs, rfl, _⟩ := okWide_struct ht hv
  obtain ⟨fuel, hf⟩ := h
  exact ⟨cs.toList, fuel, by simp, hf⟩
theorem arg_slice {t e : TypeId} {d : DataW H} {v : Value} {p : List MemPlace} {W : World} {base : Nat} (ht : Tryd.prog.underlying t = some (.slice e)) (hv : Value.okWide Tryd.prog W .any base t v) (h : DataW.Trod enc Tryd.prog W 0 (fun _ => true) true t v d p) :
    ∃ fuel, DataW.trod enc Tryd.prog W 0 (fun _ => true) true fuel t [v] = some (d, p) := by
  obtain ⟨a, len, cap, rfl⟩ := okWide_slice ht hv
  exact h
end
end Go.Proofs.YtfhmjkdpohepaaaDoor
