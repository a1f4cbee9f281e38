/- A map from names to numbers; graph.edges, walked. -/
import Derived.Test.YthmmfghcfgbblaaGr2
import Derived.Maps.OwnSet
set_option linter.unusedSimpArgs false
set_option linter.unusedVariables false
namespace Go.Proofs.Ythmmfghcfgbblaa
open Go.RowKit Go.Sort Go.Lib Go.ChangeMaps Go.WideShapes

theorem keyT (s : Tx) (hs : s.length ≤ 9223372036854775807) : keyOf Try.prog 9 (encStr s) = some (.string s) := by
  have := WideMaps.keyOf_string_mk (P := Try.prog) (k := 9) Try.underlying9 (s := ⟨s.toArray⟩) (by unfold maxLen; simpa [ByteArray.size] using hs)
  simpa using this
/-- block b is a map of the names to their numbers -/
def MapG (w : World) (b : Nat) (ns : List Tx) : Prop :=
  ∃ D : DataW Unit, w.ownsMap Try.prog 9 (plainElem Try.prog 3) b ns.length D ∧ ∀ s : Tx, Maps.has D (.string s) = ns.contains s ∧ (s ∈ ns → D.atKey (.string s) (.lit (.int .i64 0)) = .lit (.int .i64 (ns.idxOf s : Int)))
theorem zInt (w : World) : (zeroValue 3).run Try.prog w = .ok (.int .i64 0) w := by
  obtain ⟨i0, h1, h2, h3, h4⟩ := info_parts (show (Try.prog.info? 3).map (fun i => (i.zero, i.size, i.bytes)) = some (some (.int .i64 0), 1, 8) by kernel_rfl)
  simp [zeroValue, typeInfo, h1, h2]
theorem wf64 (n : Nat) (h : (n : Int) ≤ 9223372036854775807) : (Lit.int .i64 (n : Int)).wf = true := by
  simp [Lit.wf, IntKind.min, IntKind.max, IntKind.signed, IntKind.bits]; omega
theorem MapG.made (w : World) : MapG (w.alloc (.map #[] 0)) w.heap.size [] :=
  ⟨.map [], World.ownsMap_made w _ _ _, fun s => ⟨by rw [Maps.has_eq]; rfl, fun h => by cases h⟩⟩
theorem MapG.below {w w' : World} {b : Nat} {ns : List Tx} (h : MapG w b ns) (hb : Below w.heap.size w w') : MapG w' b ns := by
  obtain ⟨D, h1, h2⟩ := h
  exact ⟨D, h1.kept (row := none) ⟨hb.os, hb.tape, hb.output, hb.size, fun k hk _ => hb.block k hk⟩ (by simp), h2⟩
theorem MapG.look {w : World} {b : Nat} {ns : List Tx} (h : MapG w b ns) (s : Tx) (hs : s.length ≤ 9223372036854775807) :
    ∃ c : Int, (Instr.lookup 48 (.map (some b)) (encStr s) true).run Try.prog w = .ok (.tuple #[.int .i64 c, .bool (ns.contains s)]) w ∧ (s ∈ ns → c = (ns.idxOf s : Int)) := by
  obtain ⟨D, h1, h2⟩ := h
  obtain ⟨v, ps, hrun, hv⟩ := h1.look_ok (Maps.string_keyed Try.underlying9) (t := 48) Try.underlying48 (zInt w) (zd := .lit (.int .i64 0)) (zp := []) (plainElem_int Try.underlying3 (by decide)) (keyT s hs)
  obtain ⟨c, rfl, hc, hw⟩ := plainElem_int_inv Try.underlying3 hv
  refine ⟨c, by rw [hrun, (h2 s).1], fun hm => ?_⟩
  have := congrArg Prod.fst hc
  simp only [(h2 s).2 hm] at this
  injection this with this
  injection this with _ this
  exact this.symm
theorem MapG.store {w : World} {b : Nat} {ns : List Tx} (h : MapG w b ns) (s : Tx) (hs : s.length ≤ 9223372036854775807) (hn : (ns.length : Int) < 9223372036854775807) (hns : s ∉ ns) :
    ∃ w', (Instr.mapUpdate 48 (.map (some b)) (encStr s) (.int .i64 (ns.length : Int))).run Try.prog w = .ok () w' ∧ MapG w' b (ns ++ [s]) ∧ w.grownBy w' (some b) := by
  obtain ⟨D, h1, h2⟩ := h
  obtain ⟨w', hrun, ho, ht⟩ := h1.store (Maps.string_keyed Try.underlying9) (t := 48) Try.underlying48 (by unfold maxLen; omega) (keyT s hs) (plainElem_int Try.underlying3 (wf64 ns.length (by omega)))
  refine ⟨w', hrun, ⟨_, by rw [List.length_append]; exact ho, fun t => ?_⟩, ht.grown⟩
  by_cases e : t = s
  · subst e
    refine ⟨?_, fun _ => ?_⟩
    · rw [Maps.has_put_same h1.isMap (show WideAt.IsKeyLit (.string t) from trivial)]; simp
    · rw [Maps.atKey_put_same h1.isMap (show WideAt.IsKeyLit (.string t) from trivial), List.idxOf_append, if_neg hns]
      simp
  · have hne : (Lit.string t) ≠ (Lit.string s) := fun h => e (by injection h)
    refine ⟨?_, fun hm => ?_⟩
    · rw [Maps.has_put_other hne, (h2 t).1, Bool.eq_iff_iff]
      simp [e]
    · have hm2 : t ∈ ns := by
        rcases List.mem_append.1 hm with h | h
        · exact h
        · exact absurd (List.mem_singleton.1 h) e
      rw [Maps.atKey_put_other hne, (h2 t).2 hm2, List.idxOf_append, if_pos hm2]
end Go.Proofs.Ythmmfghcfgbblaa
