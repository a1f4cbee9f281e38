import Derived.Test.YtankkadnhdfpfaaGreatDoorPk01
import Derived.Deep.Quiet
import Derived.Deep.QuietTactic
/- Regions that draw their order, read, and call what makes memory of its own. -/
set_option linter.unusedSimpArgs false
set_option linter.unusedVariables false
namespace Go.Proofs.YtankkadnhdfpfaaGreatDoor
open Go.RowKit Go.Lib

theorem belowU_call {u w w' : World} (h : RowKit.Below u.heap.size u w) (hb : RowKit.Below w.heap.size w w') : RowKit.Below u.heap.size u w' := h.trans (hb.mono h.size)
structure AtB (u : World) where
  w : World
  hb : RowKit.Below u.heap.size u w
instance (u : World) : Inhabited (AtB u) := ⟨⟨u, Below.refl _ u⟩⟩
theorem wp_region_quiet_at {P : Program} {id : Nat} {Q : Exit → Act → World → Prop} {a : Act} {w : World} {l : List Oper} (hm : P.follows .mixedOrders = true) (hB : Region.lexB .any l.toArray = true)
    (h : wpQuiet P l.toArray (fun w' => ∃ p : AtB w, w' = p.w) (fun a' => ∀ w', (∃ p : AtB w, w' = p.w) → Q .normal a' w') l a) : (Code.region id l.toArray true).wp P Q a w :=
  wp_region_quiet (C := fun w' => ∃ p : AtB w, w' = p.w) hm hB ⟨⟨w.drew, (Below.refl _ w).drew⟩, rfl⟩ (by simpa using h)
theorem AtB.quiet {P : Program} {u : World} (p : AtB u) {f : FuncId} {args : Array Value} {v : Value} (h : ∀ W, RowKit.Below u.heap.size u W → Calls P f args W fun e w' => e = .returned v ∧ RowKit.Below W.heap.size W w') :
    Calls P f args p.w fun e w'' => e = .returned v ∧ ∃ q : AtB u, w'' = q.w :=
  (h p.w p.hb).mono fun _ w'' ⟨he, hb⟩ => ⟨he, ⟨w'', belowU_call p.hb hb⟩, rfl⟩
theorem AtB.cell {u : World} {b o : Nat} {v : Value} (h : u.cell? ⟨b, o, none⟩ = some v) (p : AtB u) : p.w.cell? ⟨b, o, none⟩ = some v := cell_below p.hb h
end Go.Proofs.YtankkadnhdfpfaaGreatDoor
