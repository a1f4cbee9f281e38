import Derived.Test.YtfhmjkdpohepaaaDoorPk15
import Derived.Test.YtfhmjkdpohepaaaDoorPk04
import Derived.Test.YtfhmjkdpohepaaaDoorShelfV
import Derived.Lib.SliceRun
/- Rows of values of a walk's own: a value set; the tail cleared. -/
set_option linter.unusedSimpArgs false
set_option linter.unusedVariables false
namespace Go.Proofs.YtfhmjkdpohepaaaDoor
open Go.RowKit

theorem cells5_len (v : Vl) : v.cells5.length = 5 := rfl
theorem below_cells {base g : Nat} (hg : base ≤ g) {a : World} : ∀ (vs : List Value) (o : Nat) {w : World}, Below base a w → Below base a (w.setCells g o vs)
  | [], _, _, h => h
  | v :: r, o, _, h => below_cells hg r (o + 1) (h.setCell (by exact hg) _)
theorem size_setCells (g : Nat) : ∀ (vs : List Value) (o : Nat) (w : World), (w.setCells g o vs).heap.size = w.heap.size
  | [], _, _ => rfl
  | v :: r, o, w => (size_setCells g r (o + 1) _).trans (sz_set _ _ _)
/-- a value set in a row -/
theorem rd_set5 {w : World} {g : Nat} {rows : List Vl} (h : RdL w 5 (some ⟨g, 0, none⟩) (rows.map Vl.cells5)) (i : Nat) (hi : i < rows.length) (x : Vl) : RdL (w.setCells g (i * 5) x.cells5) 5 (some ⟨g, 0, none⟩) ((rows.set i x).map Vl.cells5) := by
  intro j c hc
  rw [List.getElem?_map, Option.map_eq_some_iff] at hc
  obtain ⟨y, hy, rfl⟩ := hc
  have hj : j < rows.length := by have := (List.getElem?_eq_some_iff.1 hy).1; simpa using this
  refine ⟨g, 0, rfl, fun q u hu => ?_⟩
  have hq : q < 5 := (List.getElem?_eq_some_iff.1 hu).1
  by_cases e : i = j
  · subst e
    rw [List.getElem?_set_self hi] at hy
    obtain rfl := Option.some.inj hy
    have hin := World.cell?_setCells_in g x.cells5 (i * 5) w (fun t ht => by
      obtain ⟨b, off, e, hx⟩ := h.at_ hj
      cases e
      have h2 := hx t (((rows[i]'hj).cells5)[t]'(by rw [cells5_len] at *; exact ht)) (List.getElem?_eq_getElem _)
      rw [Nat.zero_add] at h2
      rw [h2]; rfl) q (by rw [cells5_len]; exact hq)
    rw [Nat.zero_add, hin, ← hu, List.getElem?_eq_getElem]
  · rw [List.getElem?_set_ne e] at hy
    rw [World.cell?_setCells_out g _ _ _ _ (fun _ _ => by rw [cells5_len]; show 0 + j * 5 + q < i * 5 ∨ i * 5 + 5 ≤ 0 + j * 5 + q; omega)]
    obtain ⟨b, off, e2, hx⟩ := h j y.cells5 (by rw [List.getElem?_map, hy]; rfl)
    cases e2
    exact hx q u hu
/-- what is behind a place cleared: what is ahead of it stays -/
theorem rd_front {w : World} {g n : Nat} {rows pre : List Vl} (h : RdL w 5 (some ⟨g, 0, none⟩) (rows.map Vl.cells5)) (vs : List Value) (k : Nat) (hp : pre.length ≤ k) (hpre : ∀ t, t < pre.length → rows[t]? = pre[t]?) : RdL (w.setCells g (k * 5) vs) 5 (some ⟨g, 0, none⟩) (pre.map Vl.cells5) := by
  intro j c hc
  rw [List.getElem?_map, Option.map_eq_some_iff] at hc
  obtain ⟨y, hy, rfl⟩ := hc
  have hj := (List.getElem?_eq_some_iff.1 hy).1
  refine ⟨g, 0, rfl, fun q u hu => ?_⟩
  have hq : q < 5 := (List.getElem?_eq_some_iff.1 hu).1
  rw [World.cell?_setCells_out g _ _ _ _ (fun _ _ => Or.inl (by show 0 + j * 5 + q < k * 5; omega))]
  obtain ⟨b, off, e2, hx⟩ := h j y.cells5 (by rw [List.getElem?_map, hpre j hj, hy]; rfl)
  cases e2
  exact hx q u hu
theorem run_clear5 (w : World) (g o n c : Nat) (hn : 0 < n) (hc : ∀ j, j < n * 5 → (w.cell? ⟨g, o + j, none⟩).isSome = true) (hf : ∀ j, j < n * 5 → w.frozen? ⟨g, o + j, none⟩ = false) (ty : TypeId) :
    ∃ vs, (Builtin.clear_ #[22] ty #[.slice (some ⟨g, o, none⟩) n c]).run Tryd.prog w = .ok (.tuple #[]) (w.setCells g o vs) := by
  have hv : ∀ w, (zeroValue 26).run Tryd.prog w = .ok (.agg #[.int .i64 0, .int .i64 0, .int .i64 0, .string ⟨#[]⟩, .int .i64 0]) w := Tryd.zeroValue26
  obtain ⟨vs, hvs⟩ : ∃ vs, (Builtin.zeroCells (Value.agg #[.int .i64 0, .int .i64 0, .int .i64 0, .string ⟨#[]⟩, .int .i64 0]).cells n).toList = vs := ⟨_, rfl⟩
  have hlen : vs.length = n * 5 := by rw [← hvs]; simp [Builtin.zeroCells, Value.cells]
  have hone : ∀ v ∈ vs, v.oneCell' = true := by
    intro v hv'
    rw [← hvs] at hv'
    simp [Builtin.zeroCells, Value.cells] at hv'
    obtain ⟨i, _, rfl⟩ := hv'
    have : i % 5 = 0 ∨ i % 5 = 1 ∨ i % 5 = 2 ∨ i % 5 = 3 ∨ i % 5 = 4 := by omega
    rcases this with h | h | h | h | h <;> simp [h] <;> rfl
  have hst := run_storeCells_cells (P := Tryd.prog) g o vs 0 w (by simpa [hlen] using hc) (by simpa [hlen] using hf) hone
  simp only [Nat.add_zero] at hst
  obtain ⟨m, rfl⟩ : ∃ m, n = m + 1 := ⟨n - 1, by omega⟩
  exact ⟨vs, by simp [Builtin.clear_, run_underlying Tryd.underlying22, hv, hvs, hst]⟩
end Go.Proofs.YtfhmjkdpohepaaaDoor
