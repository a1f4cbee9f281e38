import Derived.Test.YtankkadnhdfpfaaGreatDoorPk01
import Derived.Test.YtankkadnhdfpfaaGreatDoorCards
import Derived.Test.YtankkadnhdfpfaaGreatDoorTie
import Derived.Test.YtankkadnhdfpfaaGreatDoorShelf
import Derived.ProofKit
import Derived.OpenShut
import Derived.ChangeArms
import Derived.Deep.DeepHandedRow
import Derived.Deep.DeepWitnessRowRef
import Derived.Lib.LaidTab
import Derived.Lib.LaidIn
import Derived.Lib.LaidU8T
import Derived.Carry
/- What a row's list gives; the witness's world; the arguments behind the call. -/
set_option linter.unusedSimpArgs false
set_option linter.unusedVariables false
namespace Go.Proofs.YtankkadnhdfpfaaGreatDoor
open Go.ChangeShapes Go.WideShapes Go.ChangeAt Go.RowKit Go.Lib
set_option maxRecDepth 100000

theorem own : ownKnob Tryz.prog.godebug = none := by kernel_rfl
theorem laidOut : laidOutB Tryz.prog = true := by kernel_rfl

section
variable {H : Type} {enc : TypeId × Value → H}
theorem trodAll_behind {W W' : World} (hb : Below W.heap.size W W') : ∀ {ts : List TypeId} {vs : List Value} {ds : List (DataW H)} {ps : List MemPlace},
    (∀ t ∈ ts, Tryz.prog.readableRec t = true ∧ t < Tryz.prog.types.size) → (∀ x ∈ ps, x.block < W.heap.size) →
    DataW.TrodAll enc Tryz.prog W 0 (fun _ => true) true ts vs ds ps → DataW.TrodAll enc Tryz.prog W' 0 (fun b => decide (b < W.heap.size)) true ts vs ds ps
  | [], vs, ds, ps, _, _, h => by
    obtain ⟨rfl, rfl, rfl⟩ := trodAll_nil h
    exact trodAll_mk0
  | t :: ts, vs, ds, ps, ht, hp, h => by
    obtain ⟨v, vs', d, ds', p, q, rfl, rfl, rfl, h1, h2⟩ := trodAll_cons h
    have h3 := ht t (by simp)
    exact trodAll_cons_mk (Below.trod laidOut h3.1 h3.2 h1 hb (fun x hx => hp x (List.mem_append_left _ hx))) (trodAll_behind hb (fun t' h' => ht t' (List.mem_cons_of_mem _ h')) (fun x hx => hp x (List.mem_append_right _ hx)) h2)

theorem post_true {fn : Func} {s : ChangeSpec} {W W' : World} {args : Array Value} {ds gs : List (DataW H)} {before : List MemPlace} (hs : s.vars = []) (hr : fn.resultTypes = #[4])
    (hW : DataW.Whole enc Tryz.prog fn.params.toList s.vars false W args.toList ds gs before) (hp : (fn.params.all fun t => Tryz.prog.readableRec t && decide (t < Tryz.prog.types.size)) = true)
    (hf : ∀ (gs : List (DataW H)), gs = [] → s.fn H (ds ++ gs) = { results := [.lit (.bool true)], args := ds }) (hb : Below W.heap.size W W') :
    s.post enc Tryz.prog fn false true false false W args (.bool true) W' := by
  have hW' := hW
  obtain ⟨p, q, hA, hV, rfl, _, _⟩ := hW
  rw [hs] at hV
  obtain ⟨rfl, rfl⟩ := trodVars_none hV
  have hlt : ∀ x ∈ p, x.block < W.heap.size := fun x hx => hW'.lt x (List.mem_append_left _ hx)
  have hp' : ∀ t ∈ fn.params.toList, Tryz.prog.readableRec t = true ∧ t < Tryz.prog.types.size := fun t ht => by
    have := Array.all_eq_true'.1 hp t (by simpa using ht)
    simpa using this
  refine ⟨ds, [], _, [], p, [], hW', ?_, ?_, ?_, hb.frame _, fun h => by cases h⟩
  · rw [hf [] rfl, hr]; exact trodAll_cons_mk (shut_bool Tryz.underlying4 _) trodAll_mk0
  · rw [hf [] rfl]; exact trodAll_behind hb hp' hlt hA
  · rw [hf [] rfl, hs]; rfl
end

theorem tabs_of {l : List (String × DataW Unit)} {W : World} (h : laidMet Tryz.prog l W) (h1 : ("unicode/utf8.first", Lib.firstData) ∈ l) (h2 : ("unicode/utf8.acceptRanges", Lib.acceptData) ∈ l) : Lib.Utf8Tabs 1 2 W :=
  utf8Tabs_of_readsT (U8Types.of260 Tryz.lays260) ⟨by kernel_rfl, by kernel_rfl, by kernel_rfl, by kernel_rfl, by kernel_rfl, by kernel_rfl, by kernel_rfl⟩ (Lib.laidMet.reads h h1) (Lib.laidMet.reads h h2)

theorem laidVars_block {P : Program} {w : World} : ∀ {l : List (String × DataW Unit)} {ps : List MemPlace}, DataW.LaidVars P w l ps → ∀ n d, (n, d) ∈ l →
    ∃ g t cs fuel p, P.globalNamed n = some g ∧ (P.globals[g]?).map (·.type) = some t ∧ w.var? P n = some cs ∧ DataW.trod (fun _ => ()) P w 0 (fun _ => true) false fuel t cs.toList = some (d, p) ∧ ∀ x ∈ MemPlace.row ⟨g, 0, none⟩ cs.size, x ∈ ps
  | [], _, _, _, _, hm => by cases hm
  | (n', d') :: r, ps, h, n, d, hm => by
    obtain ⟨g, t, cs, fuel, p, q, h1, h2, h3, h4, h5, rfl⟩ := h
    rcases List.mem_cons.1 hm with e | e
    · cases e
      exact ⟨g, t, cs, fuel, p, h1, h2, h3, h4, fun x hx => List.mem_append_left _ (List.mem_append_left _ hx)⟩
    · obtain ⟨g, t, cs, fuel, p, k1, k2, k3, k4, k5⟩ := laidVars_block h5 n d e
      exact ⟨g, t, cs, fuel, p, k1, k2, k3, k4, fun x hx => List.mem_append_right _ (k5 x hx)⟩
theorem laid_block {P : Program} {w : World} {l : List (String × DataW Unit)} (h : laidMet P l w) {n : String} {d : DataW Unit} (hm : (n, d) ∈ l) :
    ∃ g t cs fuel p, P.globalNamed n = some g ∧ (P.globals[g]?).map (·.type) = some t ∧ DataW.trod (fun _ => ()) P w 0 (fun _ => true) false fuel t cs.toList = some (d, p) ∧ (0 < cs.size → ∃ ty, w.heap[g]? = some (.cells cs ty)) := by
  obtain ⟨ps, hv, _, hb⟩ := h
  obtain ⟨g, t, cs, fuel, p, k1, k2, k3, k4, k5⟩ := laidVars_block hv n d hm
  refine ⟨g, t, cs, fuel, p, k1, k2, k4, fun hp => ?_⟩
  obtain ⟨⟨c, ty, hc⟩, _⟩ := hb g 0 (k5 _ (MemPlace.mem_row.2 ⟨0, hp, by simp⟩))
  refine ⟨ty, ?_⟩
  unfold World.var? at k3
  rw [k1, Option.bind_some, hc] at k3
  obtain rfl : c = cs := by simpa using k3
  exact hc

def nullData : DataW Unit := .agg [.lit (.int .i64 0), .agg [.lit (.int .i64 0), .lit (.int .i64 0)], .lit (.string []), .lit (.int .i64 0)]
theorem null_of {l : List (String × DataW Unit)} {W : World} (h : laidMet Tryz.prog l W) (h3 : ("soffit/calc.null", nullData) ∈ l) :
    ∃ t, W.heap[0]? = some (.cells #[.int .i64 0, .int .i64 0, .int .i64 0, .string ⟨#[]⟩, .int .i64 0] t) := by
  obtain ⟨g, t, cs, fuel, p, hg, hty, hd, hb⟩ := laid_block h h3
  obtain rfl := Option.some.inj ((show Tryz.prog.globalNamed "soffit/calc.null" = some 0 by kernel_rfl).symm.trans hg)
  obtain rfl := Option.some.inj ((show (Tryz.prog.globals[0]?).map (·.type) = some 30 by kernel_rfl).symm.trans hty)
  have c1 : Tryz.prog.cellsOf 3 = 1 := by kernel_rfl
  have c2 : Tryz.prog.cellsOf 9 = 1 := by kernel_rfl
  have c3 : Tryz.prog.cellsOf 28 = 2 := by kernel_rfl
  have c4 : Tryz.prog.cellsOf 30 = 5 := by kernel_rfl
  obtain ⟨xs, n, _, hx, hl, hlen, hf⟩ := DataW.trod_struct Tryz.underlying30 hd
  rw [c4] at hl
  obtain ⟨cs⟩ := cs
  match xs, hlen with
  | [y0, y1, y2, y3], _ =>
    match cs, hl with
    | [x0, x1, x2, x3, x4], _ =>
      obtain ⟨k, ck, dk, _⟩ := DataW.trod_int Tryz.underlying3 (hf 0 _ rfl)
      obtain ⟨zs, n', _, hz, _, zlen, zf⟩ := DataW.trod_struct Tryz.underlying28 (hf 1 _ rfl)
      obtain ⟨s, ck2, dk2, _⟩ := DataW.trod_string Tryz.underlying9 (hf 2 _ rfl)
      obtain ⟨i, ck3, dk3, _⟩ := DataW.trod_int Tryz.underlying3 (hf 3 _ rfl)
      match zs, zlen with
      | [z0, z1], _ =>
        obtain ⟨a, ca, da, _⟩ := DataW.trod_int Tryz.underlying3 (zf 0 _ rfl)
        obtain ⟨b, cb, db, _⟩ := DataW.trod_int Tryz.underlying3 (zf 1 _ rfl)
        simp [c1, c2, c3] at ck ck2 ck3 ca cb
        subst dk dk2 dk3 hz da db
        simp [nullData] at hx
        obtain ⟨⟨h0, ⟨h1, h2⟩, h4, h5⟩, _⟩ := hx
        obtain ⟨ty, hc⟩ := hb (by simp)
        refine ⟨ty, hc.trans ?_⟩
        have hs : s = ⟨#[]⟩ := by
          obtain ⟨⟨sl⟩⟩ := s
          simp at h4
          rw [h4]
        subst ck ca cb ck2 ck3 hs
        simp [← h0, ← h1, ← h2, ← h5]

noncomputable def laidWorld (os : Os) : World :=
  let w0 := World.holding Tryz.prog os ⟨#[], #[], []⟩
  let put (h : Array Obj) (g : Nat) (cs : Array Value) : Array Obj := h.modify g fun
    | .cells _ t frozen => .cells cs t frozen
    | o => o
  let h1 := w0.heap
  let h1 := put h1 1 (Lib.firstTab.map fun z => Value.int .u8 z).toArray
  let h1 := put h1 2 ((List.range 16).flatMap fun i => [Value.int .u8 (Lib.accLo i), Value.int .u8 (Lib.accHi i)]).toArray
  let h1 := put h1 0 #[.int .i64 0, .int .i64 0, .int .i64 0, .string ⟨#[]⟩, .int .i64 0]
  { w0 with heap := h1 }
end Go.Proofs.YtankkadnhdfpfaaGreatDoor
