import Derived.Test.YtankkadnhdfpfaaGreatDoorPk14
import Derived.ChangeArms
import Derived.Deep.Slices
import Derived.WideShapes
import Derived.OpenShut
/- From the arguments' readings to Lean data: types, tests, values. -/
set_option linter.unusedSimpArgs false
set_option linter.unusedVariables false
namespace Go.Proofs.YtankkadnhdfpfaaGreatDoor
open Go.RowKit Go.ChangeShapes Go.WideShapes Go.Deep
set_option maxRecDepth 100000

structure CelAt where
  c : Cel
  A : Option Addr
  cap : Nat
def CelAt.cells (x : CelAt) : List Value := [.bool x.c.any, .bool x.c.neg, .slice x.A x.c.ts.length x.cap]
def Vl.cells5 (v : Vl) : List Value := [.int .i64 v.k, .int .i64 v.n, .int .i64 v.s, .string v.t, .int .i64 v.i]
structure CelAt.ok (x : CelAt) (w : World) : Prop where
  rd : RdL w 13 x.A (x.c.ts.map Tst.cells)
  wf : ∀ t ∈ x.c.ts, t.wf
  len : x.c.ts.length ≤ 9223372036854775807
theorem CelAt.ok.below {x : CelAt} {w w' : World} (h : x.ok w) (hb : Below w.heap.size w w') : x.ok w' := ⟨h.rd.below hb, h.wf, h.len⟩


section
variable {H : Type} {enc : TypeId × Value → H} {w : World} {base : Nat} {held : Bool} {fuel : Nat} {cs : List Value} {y : DataW H × List MemPlace}
theorem getx {α : Type} {xs : List α} {n i : Nat} (h : xs.length = n) (hi : i < n) : ∃ y, xs[i]? = some y := ⟨xs[i]'(by omega), List.getElem?_eq_getElem (by omega)⟩
theorem pick_list {α : Type} {P : Nat → α → Prop} : ∀ (n : Nat), (∀ i, i < n → ∃ t, P i t) → ∃ l : List α, l.length = n ∧ ∀ i (h : i < l.length), P i (l[i]'h)
  | 0, _ => ⟨[], rfl, fun i h => absurd h (by simp)⟩
  | n + 1, h => by
    obtain ⟨l, hl, hp⟩ := pick_list n (fun i hi => h i (by omega))
    obtain ⟨t, ht⟩ := h n (by omega)
    refine ⟨l ++ [t], by simp [hl], fun i hi => ?_⟩
    by_cases h' : i < l.length
    · rw [List.getElem_append_left h']; exact hp i h'
    · have hi2 : i < l.length + 1 := by simpa using hi
      obtain rfl : i = l.length := by omega
      rw [List.getElem_append_right (by omega)]
      simpa [hl] using ht
theorem cI : Tryz.prog.cellsOf 3 = 1 := by kernel_rfl
theorem cB : Tryz.prog.cellsOf 4 = 1 := by kernel_rfl
theorem cS : Tryz.prog.cellsOf 9 = 1 := by kernel_rfl
theorem cD : Tryz.prog.cellsOf 28 = 2 := by kernel_rfl
theorem cV : Tryz.prog.cellsOf 30 = 5 := by kernel_rfl

theorem open_dec (h : DataW.trod enc Tryz.prog w base (fun _ => true) held fuel 28 cs = some y) : ∃ a b, cs = [.int .i64 a, .int .i64 b] ∧ I64 a ∧ I64 b := by
  obtain ⟨xs, n, rfl, rfl, hl, hlen, hf⟩ := DataW.trod_struct Tryz.underlying28 h
  rw [cD] at hl
  obtain ⟨y0, e0⟩ := getx hlen (i := 0) (by decide)
  obtain ⟨y1, e1⟩ := getx hlen (i := 1) (by decide)
  obtain ⟨a, ca, _, wa⟩ := DataW.trod_int Tryz.underlying3 ((hf 0 _ rfl).trans e0)
  obtain ⟨b, cb, _, wb⟩ := DataW.trod_int Tryz.underlying3 ((hf 1 _ rfl).trans e1)
  match cs, hl with
  | [x0, x1], _ =>
    simp [cI] at ca cb
    exact ⟨a, b, by rw [ca, cb], bounds_i64 wa, bounds_i64 wb⟩

set_option maxHeartbeats 800000 in
theorem open_val (h : DataW.trod enc Tryz.prog w base (fun _ => true) held fuel 30 cs = some y) : ∃ v : Vl, cs = v.cells5 ∧ v.wf := by
  obtain ⟨xs, n, rfl, rfl, hl, hlen, hf⟩ := DataW.trod_struct Tryz.underlying30 h
  rw [cV] at hl
  obtain ⟨y0, e0⟩ := getx hlen (i := 0) (by decide)
  obtain ⟨y1, e1⟩ := getx hlen (i := 1) (by decide)
  obtain ⟨y2, e2⟩ := getx hlen (i := 2) (by decide)
  obtain ⟨y3, e3⟩ := getx hlen (i := 3) (by decide)
  obtain ⟨k, ck, _, wk⟩ := DataW.trod_int Tryz.underlying3 ((hf 0 _ rfl).trans e0)
  obtain ⟨a, b, cd, wa, wb⟩ := open_dec ((hf 1 _ rfl).trans e1)
  obtain ⟨t, ct, _, wt⟩ := DataW.trod_string Tryz.underlying9 ((hf 2 _ rfl).trans e2)
  obtain ⟨i, ci, _, wi⟩ := DataW.trod_int Tryz.underlying3 ((hf 3 _ rfl).trans e3)
  match cs, hl with
  | [x0, x1, x2, x3, x4], _ =>
    simp [cI, cD, cS] at ck cd ct ci
    exact ⟨⟨k, a, b, t, i⟩, by rw [ck, cd.1, cd.2, ct, ci]; rfl, ⟨bounds_i64 wk, wa, wb, bounds_i64 wi, wt⟩⟩

theorem cT : Tryz.prog.cellsOf 84 = 13 := by kernel_rfl
theorem cC : Tryz.prog.cellsOf 24 = 3 := by kernel_rfl
theorem open_bln {t : TypeId} (ht : Tryz.prog.underlying t = some .bool) (h : DataW.trod enc Tryz.prog w base (fun _ => true) held fuel t cs = some y) : ∃ b, cs = [.bool b] := by
  obtain ⟨b, e, _⟩ := DataW.trod_bool ht h
  exact ⟨b, e⟩

set_option maxHeartbeats 1600000 in
theorem open_tst (h : DataW.trod enc Tryz.prog w base (fun _ => true) held fuel 84 cs = some y) : ∃ t : Tst, cs = t.cells ∧ t.wf := by
  obtain ⟨xs, n, rfl, rfl, hl, hlen, hf⟩ := DataW.trod_struct Tryz.underlying84 h
  rw [cT] at hl
  obtain ⟨y0, e0⟩ := getx hlen (i := 0) (by decide)
  obtain ⟨y1, e1⟩ := getx hlen (i := 1) (by decide)
  obtain ⟨y2, e2⟩ := getx hlen (i := 2) (by decide)
  obtain ⟨y3, e3⟩ := getx hlen (i := 3) (by decide)
  obtain ⟨y4, e4⟩ := getx hlen (i := 4) (by decide)
  obtain ⟨k, ck, _, wk⟩ := DataW.trod_int Tryz.underlying3 ((hf 0 _ rfl).trans e0)
  obtain ⟨a, ca, wa⟩ := open_val ((hf 1 _ rfl).trans e1)
  obtain ⟨b, cb, wb⟩ := open_val ((hf 2 _ rfl).trans e2)
  obtain ⟨c, cc⟩ := open_bln Tryz.underlying4 ((hf 3 _ rfl).trans e3)
  obtain ⟨d, cd⟩ := open_bln Tryz.underlying4 ((hf 4 _ rfl).trans e4)
  match cs, hl with
  | [x0, x1, x2, x3, x4, x5, x6, x7, x8, x9, x10, x11, x12], _ =>
    simp [cI, cV, cB, Vl.cells5] at ck ca cb cc cd
    obtain ⟨a1, a2, a3, a4, a5⟩ := ca
    obtain ⟨b1, b2, b3, b4, b5⟩ := cb
    exact ⟨⟨k, a, b, c, d⟩, by rw [ck, a1, a2, a3, a4, a5, b1, b2, b3, b4, b5, cc, cd]; rfl, ⟨bounds_i64 wk, wa, wb⟩⟩

theorem add_none {a : Addr} {i : Nat} : (a.add i).spot = none → i ≠ 0 ∨ a.spot = none := by
  intro h
  by_cases hi : i = 0
  · right; simpa [Addr.add, hi] using h
  · exact Or.inl hi

set_option maxHeartbeats 800000 in
theorem open_list {α : Type} {t e : TypeId} {sz : Nat} (f : α → List Value) (Q : α → Prop) (ht : Tryz.prog.underlying t = some (.slice e)) (hc : Tryz.prog.cellsOf e = sz) (hsz : 0 < sz)
    (he : ∀ n cs' y', DataW.trod enc Tryz.prog w base (fun _ => true) held n e cs' = some y' → ∃ x : α, cs' = f x ∧ Q x)
    (h : DataW.trod enc Tryz.prog w base (fun _ => true) held fuel t cs = some y) :
    ∃ (A : Option Addr) (xs : List α) (cap : Nat), cs = [.slice A xs.length cap] ∧ RdL w sz A (xs.map f) ∧ (∀ x ∈ xs, Q x) ∧ xs.length ≤ 9223372036854775807 ∧ xs.length ≤ cap := by
  rcases open_slice ht h with ⟨rfl, rfl⟩ | ⟨a, len, cap, m, n, D, Pl, rfl, hb, hl, hm, hmm, rfl, hx⟩
  · exact ⟨none, [], 0, rfl, fun j c hj => by simp at hj, fun x hx => by simp at hx, by simp, by simp⟩
  rw [hc] at hx
  obtain ⟨xs, hxl, hxs⟩ := pick_list (P := fun i x => w.cells? base (a.add (i * sz)) sz = some (f x) ∧ Q x) len (fun i hi => by
    obtain ⟨cs', h1, h2⟩ := hx i (by simp at hmm; omega)
    obtain ⟨x, rfl, hq⟩ := he _ _ _ h2
    exact ⟨x, h1, hq⟩)
  subst hxl
  refine ⟨some a, xs, cap, rfl, ?_, ?_, by unfold maxLen at hm; omega, hl⟩
  · intro j c hj
    rw [List.getElem?_map, Option.map_eq_some_iff] at hj
    obtain ⟨x, hx1, rfl⟩ := hj
    obtain ⟨hjl, rfl⟩ := List.getElem?_eq_some_iff.1 hx1
    have hspot : a.spot = none := by
      have h0 : 0 < xs.length := by omega
      obtain ⟨_, hlen, hcell⟩ := World.cells?_some (hxs 0 h0).1
      have := hcell 0 hsz
      rw [List.getElem?_eq_getElem (by omega)] at this
      simpa [Addr.add] using World.cell?_spot this
    obtain ⟨b, off, spot⟩ := a
    subst hspot
    refine ⟨b, off, rfl, fun i v hv => ?_⟩
    obtain ⟨_, hlen, hcell⟩ := World.cells?_some (hxs j hjl).1
    have hi : i < sz := by have := (List.getElem?_eq_some_iff.1 hv).1; omega
    have := hcell i hi
    rw [add_add] at this
    rw [hv] at this
    by_cases hz : j * sz + i = 0
    · rw [hz] at this
      rw [show off + j * sz + i = off by omega]
      simpa [Addr.add] using this
    · rw [show off + j * sz + i = off + (j * sz + i) by omega]
      unfold Addr.add at this
      rw [if_neg hz] at this
      exact this
  · intro x hx
    obtain ⟨i, hi, rfl⟩ := List.getElem_of_mem hx
    exact (hxs i hi).2

theorem open_tests (h : DataW.trod enc Tryz.prog w base (fun _ => true) held fuel 24 cs = some y) : ∃ x : CelAt, cs = x.cells ∧ x.ok w := by
  obtain ⟨xs, n, rfl, rfl, hl, hlen, hf⟩ := DataW.trod_struct Tryz.underlying24 h
  rw [cC] at hl
  obtain ⟨y0, e0⟩ := getx hlen (i := 0) (by decide)
  obtain ⟨y1, e1⟩ := getx hlen (i := 1) (by decide)
  obtain ⟨y2, e2⟩ := getx hlen (i := 2) (by decide)
  obtain ⟨a, ca⟩ := open_bln Tryz.underlying4 ((hf 0 _ rfl).trans e0)
  obtain ⟨b, cb⟩ := open_bln Tryz.underlying4 ((hf 1 _ rfl).trans e1)
  obtain ⟨A, ts, cap, cc, hr, hq, hle, _⟩ := open_list Tst.cells Tst.wf Tryz.underlying22 cT (by decide) (fun _ _ _ h => open_tst h) ((hf 2 _ rfl).trans e2)
  have c1 : Tryz.prog.cellsOf 22 = 1 := by kernel_rfl
  match cs, hl with
  | [x0, x1, x2], _ =>
    simp [cB, c1] at ca cb cc
    exact ⟨⟨⟨a, b, ts⟩, A, cap⟩, by rw [ca, cb, cc]; rfl, ⟨hr, hq, hle⟩⟩

theorem open_type (h : DataW.trod enc Tryz.prog w base (fun _ => true) held fuel 26 cs = some y) : ∃ (t : Ty) (A : Option Addr) (c : Nat), cs = [.int .i64 t.k, .int .i64 t.sc, .bool t.c.any, .bool t.c.neg, .slice A t.c.ts.length c] ∧ TyAt w t A := by
  obtain ⟨xs, n, rfl, rfl, hl, hlen, hf⟩ := DataW.trod_struct Tryz.underlying26 h
  rw [show Tryz.prog.cellsOf 26 = 5 by kernel_rfl] at hl
  obtain ⟨y0, e0⟩ := getx hlen (i := 0) (by decide)
  obtain ⟨y1, e1⟩ := getx hlen (i := 1) (by decide)
  obtain ⟨y2, e2⟩ := getx hlen (i := 2) (by decide)
  obtain ⟨k, ck, _, wk⟩ := DataW.trod_int Tryz.underlying3 ((hf 0 _ rfl).trans e0)
  obtain ⟨s, cs', _, ws⟩ := DataW.trod_int Tryz.underlying3 ((hf 1 _ rfl).trans e1)
  obtain ⟨x, cx, hx⟩ := open_tests ((hf 2 _ rfl).trans e2)
  match cs, hl with
  | [x0, x1, x2, x3, x4], _ =>
    simp [cI, cC] at ck cs' cx
    obtain ⟨c, A, cap⟩ := x
    refine ⟨⟨k, s, c⟩, A, cap, ?_, ⟨hx.rd, hx.wf, hx.len⟩⟩
    simp [CelAt.cells] at cx
    rw [ck, cs', cx.1, cx.2.1, cx.2.2]

theorem arg_struct {t : TypeId} {fs : Array Field} {d : DataW H} {v : Value} {p : List MemPlace} {W : World} {base : Nat} (ht : Tryz.prog.underlying t = some (.struct fs)) (hv : Value.okWide Tryz.prog W .any base t v) (h : DataW.Trod enc Tryz.prog W 0 (fun _ => true) true t v d p) :
    ∃ cs fuel, v = .agg cs.toArray ∧ DataW.trod enc Tryz.prog W 0 (fun _ => true) true fuel t cs = some (d, p) := by
  obtain ⟨cs, rfl, _⟩ := okWide_struct ht hv
  obtain ⟨fuel, hf⟩ := h
  exact ⟨cs.toList, fuel, by simp, hf⟩
theorem arg_slice {t e : TypeId} {d : DataW H} {v : Value} {p : List MemPlace} {W : World} {base : Nat} (ht : Tryz.prog.underlying t = some (.slice e)) (hv : Value.okWide Tryz.prog W .any base t v) (h : DataW.Trod enc Tryz.prog W 0 (fun _ => true) true t v d p) :
    ∃ fuel, DataW.trod enc Tryz.prog W 0 (fun _ => true) true fuel t [v] = some (d, p) := by
  obtain ⟨a, len, cap, rfl⟩ := okWide_slice ht hv
  exact h
end
end Go.Proofs.YtankkadnhdfpfaaGreatDoor
