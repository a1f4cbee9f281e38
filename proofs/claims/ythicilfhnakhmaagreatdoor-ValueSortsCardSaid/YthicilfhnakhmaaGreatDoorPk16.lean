import Derived.Test.YthicilfhnakhmaaGreatDoorPk05
import Derived.ChangeArms
import Derived.Deep.Slices
import Derived.WideShapes
import Derived.OpenShut
import Derived.Test.YthicilfhnakhmaaGreatDoorPk01
import Derived.Test.YthicilfhnakhmaaGreatDoorCards
import Derived.Test.YthicilfhnakhmaaGreatDoorTie
import Derived.Test.YthicilfhnakhmaaGreatDoorShelf
import Derived.ProofKit
import Derived.Deep.DeepHandedRow
import Derived.Deep.DeepWitnessRowRef
import Derived.Lib.LaidTab
import Derived.Lib.LaidIn
import Derived.Lib.LaidU8T
import Derived.Carry
import Derived.Test.YthicilfhnakhmaaGreatDoorPk07
/- From the arguments' readings to Lean data: values, lists of values. -/
set_option linter.unusedSimpArgs false
set_option linter.unusedVariables false
namespace Go.Proofs.YthicilfhnakhmaaGreatDoor
open Go.RowKit Go.ChangeShapes Go.WideShapes Go.Deep
set_option maxRecDepth 100000

section
variable {H : Type} {enc : TypeId × Value → H} {w : World} {base : Nat} {held : Bool} {fuel : Nat} {cs : List Value} {y : DataW H × List MemPlace}
theorem getx {α : Type} {xs : List α} {n i : Nat} (h : xs.length = n) (hi : i < n) : ∃ y, xs[i]? = some y := ⟨xs[i]'(by omega), List.getElem?_eq_getElem (by omega)⟩
theorem pick_list {α : Type} {P : Nat → α → Prop} : ∀ (n : Nat), (∀ i, i < n → ∃ t, P i t) → ∃ l : List α, l.length = n ∧ ∀ i (h : i < l.length), P i (l[i]'h)
  | 0, _ => ⟨[], rfl, fun i h => absurd h (by simp)⟩
  | n + 1, h => by
    obtain ⟨l, hl, hp⟩ := pick_list n (fun i hi => h i (by omega))
    obtain ⟨t, ht⟩ := h n (by omega)
    refine ⟨l ++ [t], by simp [hl], fun i hi => ?_⟩
    by_cases h' : i < l.length
    · rw [List.getElem_append_left h']; exact hp i h'
    · have hi2 : i < l.length + 1 := by simpa using hi
      obtain rfl : i = l.length := by omega
      rw [List.getElem_append_right (by omega)]
      simpa [hl] using ht
theorem cI : Tryz.prog.cellsOf 3 = 1 := by kernel_rfl
theorem cS : Tryz.prog.cellsOf 9 = 1 := by kernel_rfl
theorem cD : Tryz.prog.cellsOf 23 = 2 := by kernel_rfl
theorem cV : Tryz.prog.cellsOf 25 = 5 := by kernel_rfl

theorem open_dec (h : DataW.trod enc Tryz.prog w base (fun _ => true) held fuel 23 cs = some y) : ∃ a b, cs = [.int .i64 a, .int .i64 b] ∧ I64 a ∧ I64 b := by
  obtain ⟨xs, n, rfl, rfl, hl, hlen, hf⟩ := DataW.trod_struct Tryz.underlying23 h
  rw [cD] at hl
  obtain ⟨y0, e0⟩ := getx hlen (i := 0) (by decide)
  obtain ⟨y1, e1⟩ := getx hlen (i := 1) (by decide)
  obtain ⟨a, ca, _, wa⟩ := DataW.trod_int Tryz.underlying3 ((hf 0 _ rfl).trans e0)
  obtain ⟨b, cb, _, wb⟩ := DataW.trod_int Tryz.underlying3 ((hf 1 _ rfl).trans e1)
  match cs, hl with
  | [x0, x1], _ =>
    simp [cI] at ca cb
    exact ⟨a, b, by rw [ca, cb], bounds_i64 wa, bounds_i64 wb⟩

set_option maxHeartbeats 800000 in
theorem open_val (h : DataW.trod enc Tryz.prog w base (fun _ => true) held fuel 25 cs = some y) : ∃ v : Vl, cs = v.cells5 ∧ v.wf := by
  obtain ⟨xs, n, rfl, rfl, hl, hlen, hf⟩ := DataW.trod_struct Tryz.underlying25 h
  rw [cV] at hl
  obtain ⟨y0, e0⟩ := getx hlen (i := 0) (by decide)
  obtain ⟨y1, e1⟩ := getx hlen (i := 1) (by decide)
  obtain ⟨y2, e2⟩ := getx hlen (i := 2) (by decide)
  obtain ⟨y3, e3⟩ := getx hlen (i := 3) (by decide)
  obtain ⟨k, ck, _, wk⟩ := DataW.trod_int Tryz.underlying3 ((hf 0 _ rfl).trans e0)
  obtain ⟨a, b, cd, wa, wb⟩ := open_dec ((hf 1 _ rfl).trans e1)
  obtain ⟨t, ct, _, wt⟩ := DataW.trod_string Tryz.underlying9 ((hf 2 _ rfl).trans e2)
  obtain ⟨i, ci, _, wi⟩ := DataW.trod_int Tryz.underlying3 ((hf 3 _ rfl).trans e3)
  match cs, hl with
  | [x0, x1, x2, x3, x4], _ =>
    simp [cI, cD, cS] at ck cd ct ci
    exact ⟨⟨k, a, b, t, i⟩, by rw [ck, cd.1, cd.2, ct, ci]; rfl, ⟨bounds_i64 wk, wa, wb, bounds_i64 wi, wt⟩⟩

theorem add_none {a : Addr} {i : Nat} : (a.add i).spot = none → i ≠ 0 ∨ a.spot = none := by
  intro h
  by_cases hi : i = 0
  · right; simpa [Addr.add, hi] using h
  · exact Or.inl hi

set_option maxHeartbeats 800000 in
theorem open_list {α : Type} {t e : TypeId} {sz : Nat} (f : α → List Value) (Q : α → Prop) (ht : Tryz.prog.underlying t = some (.slice e)) (hc : Tryz.prog.cellsOf e = sz) (hsz : 0 < sz)
    (he : ∀ n cs' y', DataW.trod enc Tryz.prog w base (fun _ => true) held n e cs' = some y' → ∃ x : α, cs' = f x ∧ Q x)
    (h : DataW.trod enc Tryz.prog w base (fun _ => true) held fuel t cs = some y) :
    ∃ (A : Option Addr) (xs : List α) (cap : Nat), cs = [.slice A xs.length cap] ∧ RdL w sz A (xs.map f) ∧ (∀ x ∈ xs, Q x) ∧ xs.length ≤ 9223372036854775807 ∧ xs.length ≤ cap := by
  rcases open_slice ht h with ⟨rfl, rfl⟩ | ⟨a, len, cap, m, n, D, Pl, rfl, hb, hl, hm, hmm, rfl, hx⟩
  · exact ⟨none, [], 0, rfl, fun j c hj => by simp at hj, fun x hx => by simp at hx, by simp, by simp⟩
  rw [hc] at hx
  obtain ⟨xs, hxl, hxs⟩ := pick_list (P := fun i x => w.cells? base (a.add (i * sz)) sz = some (f x) ∧ Q x) len (fun i hi => by
    obtain ⟨cs', h1, h2⟩ := hx i (by simp at hmm; omega)
    obtain ⟨x, rfl, hq⟩ := he _ _ _ h2
    exact ⟨x, h1, hq⟩)
  subst hxl
  refine ⟨some a, xs, cap, rfl, ?_, ?_, by unfold maxLen at hm; omega, hl⟩
  · intro j c hj
    rw [List.getElem?_map, Option.map_eq_some_iff] at hj
    obtain ⟨x, hx1, rfl⟩ := hj
    obtain ⟨hjl, rfl⟩ := List.getElem?_eq_some_iff.1 hx1
    have hspot : a.spot = none := by
      have h0 : 0 < xs.length := by omega
      obtain ⟨_, hlen, hcell⟩ := World.cells?_some (hxs 0 h0).1
      have := hcell 0 hsz
      rw [List.getElem?_eq_getElem (by omega)] at this
      simpa [Addr.add] using World.cell?_spot this
    obtain ⟨b, off, spot⟩ := a
    subst hspot
    refine ⟨b, off, rfl, fun i v hv => ?_⟩
    obtain ⟨_, hlen, hcell⟩ := World.cells?_some (hxs j hjl).1
    have hi : i < sz := by have := (List.getElem?_eq_some_iff.1 hv).1; omega
    have := hcell i hi
    rw [add_add] at this
    rw [hv] at this
    by_cases hz : j * sz + i = 0
    · rw [hz] at this
      rw [show off + j * sz + i = off by omega]
      simpa [Addr.add] using this
    · rw [show off + j * sz + i = off + (j * sz + i) by omega]
      unfold Addr.add at this
      rw [if_neg hz] at this
      exact this
  · intro x hx
    obtain ⟨i, hi, rfl⟩ := List.getElem_of_mem hx
    exact (hxs i hi).2

/-- the arguments' outer forms -/
theorem arg_struct {t : TypeId} {fs : Array Field} {d : DataW H} {v : Value} {p : List MemPlace} {W : World} {base : Nat} (ht : Tryz.prog.underlying t = some (.struct fs)) (hv : Value.okWide Tryz.prog W .any base t v) (h : DataW.Trod enc Tryz.prog W 0 (fun _ => true) true t v d p) :
    ∃ cs fuel, v = .agg cs.toArray ∧ DataW.trod enc Tryz.prog W 0 (fun _ => true) true fuel t cs = some (d, p) := by
  obtain ⟨cs, rfl, _⟩ := okWide_struct ht hv
  obtain ⟨fuel, hf⟩ := h
  exact ⟨cs.toList, fuel, by simp, hf⟩
theorem arg_slice {t e : TypeId} {d : DataW H} {v : Value} {p : List MemPlace} {W : World} {base : Nat} (ht : Tryz.prog.underlying t = some (.slice e)) (hv : Value.okWide Tryz.prog W .any base t v) (h : DataW.Trod enc Tryz.prog W 0 (fun _ => true) true t v d p) :
    ∃ fuel, DataW.trod enc Tryz.prog W 0 (fun _ => true) true fuel t [v] = some (d, p) := by
  obtain ⟨a, len, cap, rfl⟩ := okWide_slice ht hv
  exact h
end
end Go.Proofs.YthicilfhnakhmaaGreatDoor

/- What a row's list gives; the witness's world; the arguments behind the call. -/
set_option linter.unusedSimpArgs false
set_option linter.unusedVariables false
namespace Go.Proofs.YthicilfhnakhmaaGreatDoor
open Go.ChangeShapes Go.WideShapes Go.ChangeAt Go.RowKit Go.Lib

theorem own : ownKnob Tryz.prog.godebug = none := by kernel_rfl
theorem laidOut : laidOutB Tryz.prog = true := by kernel_rfl

section
variable {H : Type} {enc : TypeId × Value → H}
theorem trodAll_behind {W W' : World} (hb : Below W.heap.size W W') : ∀ {ts : List TypeId} {vs : List Value} {ds : List (DataW H)} {ps : List MemPlace},
    (∀ t ∈ ts, Tryz.prog.readableRec t = true ∧ t < Tryz.prog.types.size) → (∀ x ∈ ps, x.block < W.heap.size) →
    DataW.TrodAll enc Tryz.prog W 0 (fun _ => true) true ts vs ds ps → DataW.TrodAll enc Tryz.prog W' 0 (fun b => decide (b < W.heap.size)) true ts vs ds ps
  | [], vs, ds, ps, _, _, h => by
    obtain ⟨rfl, rfl, rfl⟩ := trodAll_nil h
    exact trodAll_mk0
  | t :: ts, vs, ds, ps, ht, hp, h => by
    obtain ⟨v, vs', d, ds', p, q, rfl, rfl, rfl, h1, h2⟩ := trodAll_cons h
    have h3 := ht t (by simp)
    exact trodAll_cons_mk (Below.trod laidOut h3.1 h3.2 h1 hb (fun x hx => hp x (List.mem_append_left _ hx))) (trodAll_behind hb (fun t' h' => ht t' (List.mem_cons_of_mem _ h')) (fun x hx => hp x (List.mem_append_right _ hx)) h2)

theorem post_true {fn : Func} {s : ChangeSpec} {W W' : World} {args : Array Value} {ds gs : List (DataW H)} {before : List MemPlace} (hs : s.vars = []) (hr : fn.resultTypes = #[4])
    (hW : DataW.Whole enc Tryz.prog fn.params.toList s.vars false W args.toList ds gs before) (hp : (fn.params.all fun t => Tryz.prog.readableRec t && decide (t < Tryz.prog.types.size)) = true)
    (hf : ∀ (gs : List (DataW H)), gs = [] → s.fn H (ds ++ gs) = { results := [.lit (.bool true)], args := ds }) (hb : Below W.heap.size W W') :
    s.post enc Tryz.prog fn false true false false W args (.bool true) W' := by
  have hW' := hW
  obtain ⟨p, q, hA, hV, rfl, _, _⟩ := hW
  rw [hs] at hV
  obtain ⟨rfl, rfl⟩ := trodVars_none hV
  have hlt : ∀ x ∈ p, x.block < W.heap.size := fun x hx => hW'.lt x (List.mem_append_left _ hx)
  have hp' : ∀ t ∈ fn.params.toList, Tryz.prog.readableRec t = true ∧ t < Tryz.prog.types.size := fun t ht => by
    have := Array.all_eq_true'.1 hp t (by simpa using ht)
    simpa using this
  refine ⟨ds, [], _, [], p, [], hW', ?_, ?_, ?_, hb.frame _, fun h => by cases h⟩
  · rw [hf [] rfl, hr]; exact trodAll_cons_mk (shut_bool Tryz.underlying4 _) trodAll_mk0
  · rw [hf [] rfl]; exact trodAll_behind hb hp' hlt hA
  · rw [hf [] rfl, hs]; rfl
end

theorem tabs_of {l : List (String × DataW Unit)} {W : World} (h : laidMet Tryz.prog l W) (h1 : ("unicode/utf8.first", Lib.firstData) ∈ l) (h2 : ("unicode/utf8.acceptRanges", Lib.acceptData) ∈ l) : Lib.Utf8Tabs 1 2 W :=
  utf8Tabs_of_readsT (U8Types.of260 Tryz.lays260) ⟨by kernel_rfl, by kernel_rfl, by kernel_rfl, by kernel_rfl, by kernel_rfl, by kernel_rfl, by kernel_rfl⟩ (Lib.laidMet.reads h h1) (Lib.laidMet.reads h h2)

/-- A LISTED VARIABLE's BLOCK. -/
theorem laidVars_block {P : Program} {w : World} : ∀ {l : List (String × DataW Unit)} {ps : List MemPlace}, DataW.LaidVars P w l ps → ∀ n d, (n, d) ∈ l →
    ∃ g t cs fuel p, P.globalNamed n = some g ∧ (P.globals[g]?).map (·.type) = some t ∧ w.var? P n = some cs ∧ DataW.trod (fun _ => ()) P w 0 (fun _ => true) false fuel t cs.toList = some (d, p) ∧ ∀ x ∈ MemPlace.row ⟨g, 0, none⟩ cs.size, x ∈ ps
  | [], _, _, _, _, hm => by cases hm
  | (n', d') :: r, ps, h, n, d, hm => by
    obtain ⟨g, t, cs, fuel, p, q, h1, h2, h3, h4, h5, rfl⟩ := h
    rcases List.mem_cons.1 hm with e | e
    · cases e
      exact ⟨g, t, cs, fuel, p, h1, h2, h3, h4, fun x hx => List.mem_append_left _ (List.mem_append_left _ hx)⟩
    · obtain ⟨g, t, cs, fuel, p, k1, k2, k3, k4, k5⟩ := laidVars_block h5 n d e
      exact ⟨g, t, cs, fuel, p, k1, k2, k3, k4, fun x hx => List.mem_append_right _ (k5 x hx)⟩
theorem laid_block {P : Program} {w : World} {l : List (String × DataW Unit)} (h : laidMet P l w) {n : String} {d : DataW Unit} (hm : (n, d) ∈ l) :
    ∃ g t cs fuel p, P.globalNamed n = some g ∧ (P.globals[g]?).map (·.type) = some t ∧ DataW.trod (fun _ => ()) P w 0 (fun _ => true) false fuel t cs.toList = some (d, p) ∧ (0 < cs.size → ∃ ty, w.heap[g]? = some (.cells cs ty)) := by
  obtain ⟨ps, hv, _, hb⟩ := h
  obtain ⟨g, t, cs, fuel, p, k1, k2, k3, k4, k5⟩ := laidVars_block hv n d hm
  refine ⟨g, t, cs, fuel, p, k1, k2, k4, fun hp => ?_⟩
  obtain ⟨⟨c, ty, hc⟩, _⟩ := hb g 0 (k5 _ (MemPlace.mem_row.2 ⟨0, hp, by simp⟩))
  refine ⟨ty, ?_⟩
  unfold World.var? at k3
  rw [k1, Option.bind_some, hc] at k3
  obtain rfl : c = cs := by simpa using k3
  exact hc


/-- A WORLD FOR THE WITNESS: the settled one, the listed variables holding what their initialisers lay. -/
noncomputable def laidWorld (os : Os) : World :=
  let w0 := World.holding Tryz.prog os ⟨#[], #[], []⟩
  let put (h : Array Obj) (g : Nat) (cs : Array Value) : Array Obj := h.modify g fun
    | .cells _ t frozen => .cells cs t frozen
    | o => o
  let h1 := w0.heap
  let h1 := put h1 1 (Lib.firstTab.map fun z => Value.int .u8 z).toArray
  let h1 := put h1 2 ((List.range 16).flatMap fun i => [Value.int .u8 (Lib.accLo i), Value.int .u8 (Lib.accHi i)]).toArray
  { w0 with heap := h1 }
end Go.Proofs.YthicilfhnakhmaaGreatDoor

/- The tables of the library at the values' seat: from a row's list; the witness's world. -/
set_option linter.unusedSimpArgs false
set_option linter.unusedVariables false
namespace Go.Proofs.YthicilfhnakhmaaGreatDoor
open Go.ChangeShapes Go.WideShapes Go.ChangeAt Go.RowKit Go.Lib

theorem pow_laid : (Rows.laid_internal_strconv_uint64pow10 : DataW Unit) = tabData .u64 pow10Tab := by kernel_rfl
theorem pow_of {l : List (String × DataW Unit)} {W : World} (h : laidMet Tryz.prog l W) (h1 : ("internal/strconv.uint64pow10", Rows.laid_internal_strconv_uint64pow10) ∈ l) : TabIs Tryz.prog W "internal/strconv.uint64pow10" .u64 pow10Tab := by
  obtain ⟨g, t, cs, fuel, p, hg, hty, hv, hd⟩ := Lib.laidMet.reads h h1
  rw [pow_laid] at hd
  obtain rfl := Option.some.inj ((show Tryz.prog.globalNamed "internal/strconv.uint64pow10" = some 0 by kernel_rfl).symm.trans hg)
  obtain rfl := Option.some.inj ((show (Tryz.prog.globals[0]?).map (·.type) = some 164 by kernel_rfl).symm.trans hty)
  unfold TabIs
  rw [hv, ← cells_of_tab (n := 20) (e := 63) (by kernel_rfl) (by kernel_rfl) (by kernel_rfl) (by kernel_rfl) hd]

/-- the cells of a listed table of numbers -/
def tabCells : DataW Unit → Array Value
  | .agg xs => (xs.map fun | .lit (.int k z) => Value.int k z | _ => .bool false).toArray
  | _ => #[]
noncomputable def laidWorldW (os : Os) : World :=
  let w0 := laidWorld os
  let put (h : Array Obj) (g : Nat) (cs : Array Value) : Array Obj := h.modify g fun
    | .cells _ t frozen => .cells cs t frozen
    | o => o
  let h1 := put w0.heap 0 (tabCells Rows.laid_internal_strconv_uint64pow10)
  let h1 := put h1 4 (tabCells Rows.laid_math_bits_deBruijn32tab)
  let h1 := put h1 5 (tabCells Rows.laid_math_bits_deBruijn64tab)
  { w0 with heap := h1 }
end Go.Proofs.YthicilfhnakhmaaGreatDoor
