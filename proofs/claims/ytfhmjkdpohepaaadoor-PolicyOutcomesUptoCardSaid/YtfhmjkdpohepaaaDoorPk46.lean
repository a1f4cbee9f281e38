import Derived.Test.YtfhmjkdpohepaaaDoorPk44
import Derived.Test.YtfhmjkdpohepaaaDoorPk45
/- From the arguments' readings to Lean data: five arguments; lists of values, how long they are at most. -/
set_option linter.unusedSimpArgs false
set_option linter.unusedVariables false
namespace Go.Proofs.YtfhmjkdpohepaaaDoor
open Go.RowKit Go.ChangeShapes Go.WideShapes Go.Deep
set_option maxRecDepth 100000

theorem bulk_pos {H : Type} (d : DataW H) : 1 ≤ Rows.uptoBulk d := by
  cases d with
  | lit l => cases l <;> simp [Rows.uptoBulk]
  | nil => simp [Rows.uptoBulk]
  | ptr d => simp [Rows.uptoBulk]
  | slice elems spare => simp [Rows.uptoBulk]
  | agg parts => simp [Rows.uptoBulk]
  | iface t d => simp [Rows.uptoBulk]
  | map entries => simp [Rows.uptoBulk]
  | held h => simp [Rows.uptoBulk]
theorem bulk_part {H : Type} {d : DataW H} {l : List (DataW H)} (h : d ∈ l) : Rows.uptoBulk d ≤ Rows.uptoBulkAll l := by
  induction l with
  | nil => cases h
  | cons x r ih =>
    simp only [Rows.uptoBulkAll]
    cases List.mem_cons.1 h with
    | inl e => subst e; omega
    | inr e => have := ih e; omega
theorem bulk_length {H : Type} (l : List (DataW H)) : l.length ≤ Rows.uptoBulkAll l := by
  induction l with
  | nil => simp [Rows.uptoBulkAll]
  | cons x r ih => have := bulk_pos x; simp only [Rows.uptoBulkAll, List.length_cons]; omega
theorem bulk_slice {H : Type} (elems spare : List (DataW H)) : Rows.uptoBulkAll elems ≤ Rows.uptoBulk (.slice elems spare) := by
  simp only [Rows.uptoBulk]; omega
theorem bulk_agg {H : Type} (parts : List (DataW H)) : Rows.uptoBulkAll parts ≤ Rows.uptoBulk (.agg parts) := by
  simp only [Rows.uptoBulk]; omega
theorem bulk_small {H : Type} {l : List (DataW H)} (hk : Rows.uptoSmall H l = true) : Rows.uptoBulkAll l ≤ 1048576 := of_decide_eq_true hk
theorem bulk_arg {H : Type} {l : List (DataW H)} (hk : Rows.uptoSmall H l = true) {d : DataW H} (hd : d ∈ l) : Rows.uptoBulk d ≤ 1048576 := Nat.le_trans (bulk_part hd) (bulk_small hk)

theorem bulk_two {H : Type} {l : List (DataW H)} (h : ∀ d ∈ l, 2 ≤ Rows.uptoBulk d) : 2 * l.length ≤ Rows.uptoBulkAll l := by
  induction l with
  | nil => simp
  | cons x r ih =>
    have h1 := h x List.mem_cons_self
    have h2 := ih (fun d hd => h d (List.mem_cons_of_mem _ hd))
    simp only [Rows.uptoBulkAll, List.length_cons]; omega
section
variable {H : Type} {enc : TypeId × Value → H} {w : World} {base : Nat} {held : Bool} {fuel : Nat} {cs : List Value} {y : DataW H × List MemPlace}
set_option maxHeartbeats 800000 in
/-- as open_list, of elements that hold two values or more -/
theorem open_list2 {α : Type} {t e : TypeId} {sz : Nat} (f : α → List Value) (Q : α → Prop) (ht : Tryd.prog.underlying t = some (.slice e)) (hc : Tryd.prog.cellsOf e = sz) (hsz : 0 < sz)
    (he : ∀ n cs' y', DataW.trod enc Tryd.prog w base (fun _ => true) held n e cs' = some y' → ∃ x : α, cs' = f x ∧ Q x ∧ 2 ≤ Rows.uptoBulk y'.1)
    (h : DataW.trod enc Tryd.prog w base (fun _ => true) held fuel t cs = some y) :
    ∃ (A : Option Addr) (xs : List α) (cap : Nat), cs = [.slice A xs.length cap] ∧ RdL w sz A (xs.map f) ∧ (∀ x ∈ xs, Q x) ∧ xs.length ≤ 9223372036854775807 ∧ xs.length ≤ cap ∧ ∀ N, Rows.uptoBulk y.1 ≤ N → 2 * xs.length ≤ N := by
  rcases open_slice ht h with ⟨rfl, rfl⟩ | ⟨a, len, cap, m, n, D, Pl, rfl, hb, hl, hm, hmm, rfl, hx⟩
  · exact ⟨none, [], 0, rfl, fun j c hj => by simp at hj, fun x hx => by simp at hx, by simp, by simp, fun N _ => Nat.zero_le _⟩
  rw [hc] at hx
  obtain ⟨xs, hxl, hxs⟩ := pick_list (P := fun i x => w.cells? base (a.add (i * sz)) sz = some (f x) ∧ Q x ∧ 2 ≤ Rows.uptoBulk (D i)) len (fun i hi => by
    obtain ⟨cs', h1, h2⟩ := hx i (by simp at hmm; omega)
    obtain ⟨x, rfl, hq⟩ := he _ _ _ h2
    exact ⟨x, h1, hq⟩)
  subst hxl
  refine ⟨some a, xs, cap, rfl, ?_, ?_, by unfold maxLen at hm; omega, hl, ?_⟩
  · intro j c hj
    rw [List.getElem?_map, Option.map_eq_some_iff] at hj
    obtain ⟨x, hx1, rfl⟩ := hj
    obtain ⟨hjl, rfl⟩ := List.getElem?_eq_some_iff.1 hx1
    have hspot : a.spot = none := by
      have h0 : 0 < xs.length := by omega
      obtain ⟨_, hlen, hcell⟩ := World.cells?_some (hxs 0 h0).1
      have := hcell 0 hsz
      rw [List.getElem?_eq_getElem (by omega)] at this
      simpa [Addr.add] using World.cell?_spot this
    obtain ⟨b, off, spot⟩ := a
    subst hspot
    refine ⟨b, off, rfl, fun i v hv => ?_⟩
    obtain ⟨_, hlen, hcell⟩ := World.cells?_some (hxs j hjl).1
    have hi : i < sz := by have := (List.getElem?_eq_some_iff.1 hv).1; omega
    have := hcell i hi
    rw [add_add] at this
    rw [hv] at this
    by_cases hz : j * sz + i = 0
    · rw [hz] at this
      rw [show off + j * sz + i = off by omega]
      simpa [Addr.add] using this
    · rw [show off + j * sz + i = off + (j * sz + i) by omega]
      unfold Addr.add at this
      rw [if_neg hz] at this
      exact this
  · intro x hx
    obtain ⟨i, hi, rfl⟩ := List.getElem_of_mem hx
    exact (hxs i hi).2.1
  · intro N hN
    have h1 := Nat.le_trans (bulk_slice _ _) hN
    have h2 := bulk_two (l := (List.range xs.length).map D) (fun d hd => by
      obtain ⟨i, hi, rfl⟩ := List.mem_map.1 hd
      exact (hxs i (List.mem_range.1 hi)).2.2)
    rw [List.length_map, List.length_range] at h2
    omega

theorem open_valB (h : DataW.trod enc Tryd.prog w base (fun _ => true) held fuel 26 cs = some y) : ∃ v : Vl, cs = v.cells5 ∧ v.wf ∧ 2 ≤ Rows.uptoBulk y.1 := by
  obtain ⟨v, h1, h2⟩ := open_val h
  refine ⟨v, h1, h2, ?_⟩
  obtain ⟨xs, n, _, hy, hl, hlen, hf⟩ := DataW.trod_struct Tryd.underlying26 h
  have hy1 : y.1 = .agg (xs.map (·.1)) := by rw [hy]
  rw [hy1]
  have := bulk_length (xs.map (·.1))
  have h4 : xs.length = 4 := hlen
  rw [List.length_map] at this
  simp only [Rows.uptoBulk]
  omega
end
section
variable {H : Type} {enc : TypeId × Value → H} {P : Program} {w : World} {base : Nat} {spare : Nat → Bool} {held : Bool}
/-- five arguments -/
theorem five_args {t0 t1 t2 t3 t4 : TypeId} {args : Array Value} {ds : List (DataW H)} {ps : List MemPlace} (h : DataW.TrodAll enc P w base spare held [t0, t1, t2, t3, t4] args.toList ds ps) :
    ∃ v0 v1 v2 v3 v4 d0 d1 d2 d3 d4 p0 p1 p2 p3 p4, args = #[v0, v1, v2, v3, v4] ∧ ds = [d0, d1, d2, d3, d4] ∧ DataW.Trod enc P w base spare held t0 v0 d0 p0 ∧ DataW.Trod enc P w base spare held t1 v1 d1 p1 ∧ DataW.Trod enc P w base spare held t2 v2 d2 p2 ∧ DataW.Trod enc P w base spare held t3 v3 d3 p3 ∧ DataW.Trod enc P w base spare held t4 v4 d4 p4 := by
  obtain ⟨v0, r0, d0, e0, p0, q0, ha, hd0, hp0, h0, k0⟩ := trodAll_cons h
  obtain ⟨v1, r1, d1, e1, p1, q1, ha1, hd1, hp1, h1, k1⟩ := trodAll_cons k0
  obtain ⟨v2, r2, d2, e2, p2, q2, ha2, hd2, hp2, h2, k2⟩ := trodAll_cons k1
  obtain ⟨v3, r3, d3, e3, p3, q3, ha3, hd3, hp3, h3, k3⟩ := trodAll_cons k2
  obtain ⟨v4, r4, d4, e4, p4, q4, ha4, hd4, hp4, h4, k4⟩ := trodAll_cons k3
  obtain ⟨hr, he, -⟩ := trodAll_nil k4
  subst hr he ha4 hd4 ha3 hd3 ha2 hd2 ha1 hd1 hd0
  exact ⟨v0, v1, v2, v3, v4, d0, d1, d2, d3, d4, p0, p1, p2, p3, p4, by cases args; simp_all, rfl, h0, h1, h2, h3, h4⟩
end
end Go.Proofs.YtfhmjkdpohepaaaDoor
