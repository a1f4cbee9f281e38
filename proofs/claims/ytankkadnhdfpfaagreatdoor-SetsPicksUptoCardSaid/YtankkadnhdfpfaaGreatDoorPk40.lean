import Derived.Test.YtankkadnhdfpfaaGreatDoorPk39
import Derived.Test.YtankkadnhdfpfaaGreatDoorPk24
/- The tables of the library at the words' seat: from a row's list; the witness's world. -/
set_option linter.unusedSimpArgs false
set_option linter.unusedVariables false
namespace Go.Proofs.YtankkadnhdfpfaaGreatDoor
open Go.ChangeShapes Go.WideShapes Go.ChangeAt Go.RowKit Go.Lib
set_option maxRecDepth 100000

theorem pow_laid : (Rows.laid_internal_strconv_uint64pow10 : DataW Unit) = tabData .u64 pow10Tab := by kernel_rfl
theorem pow_of {l : List (String × DataW Unit)} {W : World} (h : laidMet Tryz.prog l W) (h1 : ("internal/strconv.uint64pow10", Rows.laid_internal_strconv_uint64pow10) ∈ l) : TabIs Tryz.prog W "internal/strconv.uint64pow10" .u64 pow10Tab := by
  obtain ⟨g, t, cs, fuel, p, hg, hty, hv, hd⟩ := Lib.laidMet.reads h h1
  rw [pow_laid] at hd
  obtain rfl := Option.some.inj ((show Tryz.prog.globalNamed "internal/strconv.uint64pow10" = some 3 by kernel_rfl).symm.trans hg)
  obtain rfl := Option.some.inj ((show (Tryz.prog.globals[3]?).map (·.type) = some 236 by kernel_rfl).symm.trans hty)
  unfold TabIs
  rw [hv, ← cells_of_tab (n := 20) (e := 132) (by kernel_rfl) (by kernel_rfl) (by kernel_rfl) (by kernel_rfl) hd]

/-- the cells of a listed table of numbers -/
def tabCells : DataW Unit → Array Value
  | .agg xs => (xs.map fun | .lit (.int k z) => Value.int k z | _ => .bool false).toArray
  | _ => #[]
noncomputable def laidWorldW (os : Os) : World :=
  let w0 := laidWorld os
  let put (h : Array Obj) (g : Nat) (cs : Array Value) : Array Obj := h.modify g fun
    | .cells _ t frozen => .cells cs t frozen
    | o => o
  let h1 := put w0.heap 3 (tabCells Rows.laid_internal_strconv_uint64pow10)
  let h1 := put h1 4 (tabCells Rows.laid_math_bits_deBruijn32tab)
  let h1 := put h1 5 (tabCells Rows.laid_math_bits_deBruijn64tab)
  { w0 with heap := h1 }
end Go.Proofs.YtankkadnhdfpfaaGreatDoor
