/-
  NARROWER THAN 'FOR EVERY INPUT', by the rows' own cells (each row's printed sentence says how): SetsSplit: laid · BoxesPick: laid · BoxesFull: laid · BoxesJoin: laid · BoxesLaws: laid · SetsTypes: laid · SetsOf: laid · SetsOne: laid · SetsPicks: laid · SetsOther: laid.
  DERIVED. THE GIVEN ROWS OF THIS SEAT. 10 by the template 'for every input the law returns true; each argument reads behind the call as it read before'; 0 by the template 'total and deterministic' (their statements: YtankkadnhdfpfaaGreatDoorTotals.lean).
  GIVEN WITH THE SEED: the statements are not yours to turn. If you find one false, say at which input.
  Laid BY PROGRAM, IN A SANDBOX (cutbox-rows.mjs): the forced cells as the released guide's own fill.sh prints them over the translation 7724f515de0ab8a7… (all of the seat's roots in one cut). By AI agents, Wed Nov 11 2026. No macro, syntax, notation, axiom, sorry.
-/
import Derived.Test.YtankkadnhdfpfaaGreatDoorChecked
import GoSem.PinnedTables
import GoSem.Claim
import GoSem.ClaimJoined
import GoSem.ClaimMapViews
import Derived.JoinedTies
import Derived.KernelRfl
namespace Go.Proofs.YtankkadnhdfpfaaGreatDoor
/- THE CELL 'sum', in the pinned program and in every row, IS THE sha256 OF THE DUMP (.gsa) THAT YtankkadnhdfpfaaGreatDoorProg.lean LOADS. Nothing in Lean hashes anything: it is a label: what it is worth is what the hold of that sum in a sandbox is worth. -/
noncomputable def Tryz.pinned : Pinned := { name := "ytankkadnhdfpfaagreatdoor", sum := "7724f515de0ab8a76f9a9671f51ac2eac0ec3a9dcd1f08085ba74c2167bc8ff2", checked := Tryz.checked }
namespace Rows
def none {H : Type} : Left H := { results := [], args := [] }

/- WHAT THE LISTED PACKAGE-LEVEL VARIABLES READ AS WHEN THE CALL BEGINS. Each datum BY PROGRAM (the guide's laid-datum.mjs) off the statement by which the dump's own 'gosem.cut.vars' lays the variable. In a bare row this is a premise. The card (YtankkadnhdfpfaaGreatDoorCards.lean) ties it to the program's text. -/
def laid_math_bits_deBruijn32tab {H : Type} : DataW H := .agg [.lit (.int .u8 0), .lit (.int .u8 1), .lit (.int .u8 28), .lit (.int .u8 2), .lit (.int .u8 29), .lit (.int .u8 14), .lit (.int .u8 24), .lit (.int .u8 3), .lit (.int .u8 30), .lit (.int .u8 22), .lit (.int .u8 20), .lit (.int .u8 15), .lit (.int .u8 25), .lit (.int .u8 17), .lit (.int .u8 4), .lit (.int .u8 8), .lit (.int .u8 31), .lit (.int .u8 27), .lit (.int .u8 13), .lit (.int .u8 23), .lit (.int .u8 21), .lit (.int .u8 19), .lit (.int .u8 16), .lit (.int .u8 7), .lit (.int .u8 26), .lit (.int .u8 12), .lit (.int .u8 18), .lit (.int .u8 6), .lit (.int .u8 11), .lit (.int .u8 5), .lit (.int .u8 10), .lit (.int .u8 9)]
def laid_math_bits_deBruijn64tab {H : Type} : DataW H := .agg [.lit (.int .u8 0), .lit (.int .u8 1), .lit (.int .u8 56), .lit (.int .u8 2), .lit (.int .u8 57), .lit (.int .u8 49), .lit (.int .u8 28), .lit (.int .u8 3), .lit (.int .u8 61), .lit (.int .u8 58), .lit (.int .u8 42), .lit (.int .u8 50), .lit (.int .u8 38), .lit (.int .u8 29), .lit (.int .u8 17), .lit (.int .u8 4), .lit (.int .u8 62), .lit (.int .u8 47), .lit (.int .u8 59), .lit (.int .u8 36), .lit (.int .u8 45), .lit (.int .u8 43), .lit (.int .u8 51), .lit (.int .u8 22), .lit (.int .u8 53), .lit (.int .u8 39), .lit (.int .u8 33), .lit (.int .u8 30), .lit (.int .u8 24), .lit (.int .u8 18), .lit (.int .u8 12), .lit (.int .u8 5), .lit (.int .u8 63), .lit (.int .u8 55), .lit (.int .u8 48), .lit (.int .u8 27), .lit (.int .u8 60), .lit (.int .u8 41), .lit (.int .u8 37), .lit (.int .u8 16), .lit (.int .u8 46), .lit (.int .u8 35), .lit (.int .u8 44), .lit (.int .u8 21), .lit (.int .u8 52), .lit (.int .u8 32), .lit (.int .u8 23), .lit (.int .u8 11), .lit (.int .u8 54), .lit (.int .u8 26), .lit (.int .u8 40), .lit (.int .u8 15), .lit (.int .u8 34), .lit (.int .u8 20), .lit (.int .u8 31), .lit (.int .u8 10), .lit (.int .u8 25), .lit (.int .u8 14), .lit (.int .u8 19), .lit (.int .u8 9), .lit (.int .u8 13), .lit (.int .u8 8), .lit (.int .u8 7), .lit (.int .u8 6)]
def laid_internal_strconv_uint64pow10 {H : Type} : DataW H := .agg [.lit (.int .u64 1), .lit (.int .u64 10), .lit (.int .u64 100), .lit (.int .u64 1000), .lit (.int .u64 10000), .lit (.int .u64 100000), .lit (.int .u64 1000000), .lit (.int .u64 10000000), .lit (.int .u64 100000000), .lit (.int .u64 1000000000), .lit (.int .u64 10000000000), .lit (.int .u64 100000000000), .lit (.int .u64 1000000000000), .lit (.int .u64 10000000000000), .lit (.int .u64 100000000000000), .lit (.int .u64 1000000000000000), .lit (.int .u64 10000000000000000), .lit (.int .u64 100000000000000000), .lit (.int .u64 1000000000000000000), .lit (.int .u64 10000000000000000000)]
def laid_unicode_utf8_acceptRanges {H : Type} : DataW H := .agg [.agg [.lit (.int .u8 128), .lit (.int .u8 191)], .agg [.lit (.int .u8 160), .lit (.int .u8 191)], .agg [.lit (.int .u8 128), .lit (.int .u8 159)], .agg [.lit (.int .u8 144), .lit (.int .u8 191)], .agg [.lit (.int .u8 128), .lit (.int .u8 143)], .agg [.lit (.int .u8 0), .lit (.int .u8 0)], .agg [.lit (.int .u8 0), .lit (.int .u8 0)], .agg [.lit (.int .u8 0), .lit (.int .u8 0)], .agg [.lit (.int .u8 0), .lit (.int .u8 0)], .agg [.lit (.int .u8 0), .lit (.int .u8 0)], .agg [.lit (.int .u8 0), .lit (.int .u8 0)], .agg [.lit (.int .u8 0), .lit (.int .u8 0)], .agg [.lit (.int .u8 0), .lit (.int .u8 0)], .agg [.lit (.int .u8 0), .lit (.int .u8 0)], .agg [.lit (.int .u8 0), .lit (.int .u8 0)], .agg [.lit (.int .u8 0), .lit (.int .u8 0)]]
def laid_soffit_calc_null {H : Type} : DataW H := .agg [.lit (.int .i64 0), .agg [.lit (.int .i64 0), .lit (.int .i64 0)], .lit (.string []), .lit (.int .i64 0)]
/-- One of Go's own tables, pinned by name: the form's constant. -/
def laid_unicode_utf8_first : DataW Unit := Go.Pinned.utf8First

/-- 'soffitlaw15.SetsSplit': WHATEVER THE INPUT: true; the input reads as it did. -/
def setsSplitSpec : ChangeSpec := { name := "setsSplit", fn := fun _ => fun
  | [d1, d2, d3] => { results := [.lit (.bool true)], args := [d1, d2, d3] }
  | _ => none }
def setsSplitRow : OpenClaim := { program := "ytankkadnhdfpfaagreatdoor", sum := "7724f515de0ab8a76f9a9671f51ac2eac0ec3a9dcd1f08085ba74c2167bc8ff2", func := "soffit/soffitlaw15.SetsSplit", spec := "setsSplit", unfollowed := true, recurses := true, named := ["unicode/utf8.first", "unicode/utf8.acceptRanges", "internal/strconv.uint64pow10", "math/bits.deBruijn32tab", "math/bits.deBruijn64tab", "soffit/calc.null"], apart := false, laid := [("math/bits.deBruijn32tab", laid_math_bits_deBruijn32tab), ("math/bits.deBruijn64tab", laid_math_bits_deBruijn64tab), ("internal/strconv.uint64pow10", laid_internal_strconv_uint64pow10), ("unicode/utf8.acceptRanges", laid_unicode_utf8_acceptRanges), ("soffit/calc.null", laid_soffit_calc_null), ("unicode/utf8.first", laid_unicode_utf8_first)] }
def SetsSplitSaid : Prop := setsSplitRow.holds Tryz.pinned (OpenSpec.ofChange setsSplitSpec)

/-- ITS FALSE NEIGHBOUR: 'it returns false'. Refute it at one input. -/
def setsSplitWrong : ChangeSpec := { name := "setsSplit", fn := fun _ => fun
  | [d1, d2, d3] => { results := [.lit (.bool false)], args := [d1, d2, d3] }
  | _ => none }
def SetsSplitWrongFalsely : Prop := setsSplitRow.holds Tryz.pinned (OpenSpec.ofChange setsSplitWrong)

/-- 'soffitlaw16.BoxesPick': WHATEVER THE INPUT: true; the input reads as it did. -/
def boxesPickSpec : ChangeSpec := { name := "boxesPick", fn := fun _ => fun
  | [d1, d2, d3, d4] => { results := [.lit (.bool true)], args := [d1, d2, d3, d4] }
  | _ => none }
def boxesPickRow : OpenClaim := { program := "ytankkadnhdfpfaagreatdoor", sum := "7724f515de0ab8a76f9a9671f51ac2eac0ec3a9dcd1f08085ba74c2167bc8ff2", func := "soffit/soffitlaw16.BoxesPick", spec := "boxesPick", unfollowed := true, recurses := true, named := ["unicode/utf8.first", "unicode/utf8.acceptRanges", "internal/strconv.uint64pow10", "math/bits.deBruijn32tab", "math/bits.deBruijn64tab", "soffit/calc.null"], apart := false, laid := [("math/bits.deBruijn32tab", laid_math_bits_deBruijn32tab), ("math/bits.deBruijn64tab", laid_math_bits_deBruijn64tab), ("internal/strconv.uint64pow10", laid_internal_strconv_uint64pow10), ("unicode/utf8.acceptRanges", laid_unicode_utf8_acceptRanges), ("soffit/calc.null", laid_soffit_calc_null), ("unicode/utf8.first", laid_unicode_utf8_first)] }
def BoxesPickSaid : Prop := boxesPickRow.holds Tryz.pinned (OpenSpec.ofChange boxesPickSpec)

/-- ITS FALSE NEIGHBOUR: 'it returns false'. Refute it at one input. -/
def boxesPickWrong : ChangeSpec := { name := "boxesPick", fn := fun _ => fun
  | [d1, d2, d3, d4] => { results := [.lit (.bool false)], args := [d1, d2, d3, d4] }
  | _ => none }
def BoxesPickWrongFalsely : Prop := boxesPickRow.holds Tryz.pinned (OpenSpec.ofChange boxesPickWrong)

/-- 'soffitlaw16.BoxesFull': WHATEVER THE INPUT: true; the input reads as it did. -/
def boxesFullSpec : ChangeSpec := { name := "boxesFull", fn := fun _ => fun
  | [d1, d2, d3, d4] => { results := [.lit (.bool true)], args := [d1, d2, d3, d4] }
  | _ => none }
def boxesFullRow : OpenClaim := { program := "ytankkadnhdfpfaagreatdoor", sum := "7724f515de0ab8a76f9a9671f51ac2eac0ec3a9dcd1f08085ba74c2167bc8ff2", func := "soffit/soffitlaw16.BoxesFull", spec := "boxesFull", unfollowed := true, recurses := true, named := ["unicode/utf8.first", "unicode/utf8.acceptRanges", "soffit/calc.null"], apart := false, laid := [("unicode/utf8.acceptRanges", laid_unicode_utf8_acceptRanges), ("soffit/calc.null", laid_soffit_calc_null), ("unicode/utf8.first", laid_unicode_utf8_first)] }
def BoxesFullSaid : Prop := boxesFullRow.holds Tryz.pinned (OpenSpec.ofChange boxesFullSpec)

/-- ITS FALSE NEIGHBOUR: 'it returns false'. Refute it at one input. -/
def boxesFullWrong : ChangeSpec := { name := "boxesFull", fn := fun _ => fun
  | [d1, d2, d3, d4] => { results := [.lit (.bool false)], args := [d1, d2, d3, d4] }
  | _ => none }
def BoxesFullWrongFalsely : Prop := boxesFullRow.holds Tryz.pinned (OpenSpec.ofChange boxesFullWrong)

/-- 'soffitlaw16.BoxesJoin': WHATEVER THE INPUT: true; the input reads as it did. -/
def boxesJoinSpec : ChangeSpec := { name := "boxesJoin", fn := fun _ => fun
  | [d1, d2, d3, d4, d5] => { results := [.lit (.bool true)], args := [d1, d2, d3, d4, d5] }
  | _ => none }
def boxesJoinRow : OpenClaim := { program := "ytankkadnhdfpfaagreatdoor", sum := "7724f515de0ab8a76f9a9671f51ac2eac0ec3a9dcd1f08085ba74c2167bc8ff2", func := "soffit/soffitlaw16.BoxesJoin", spec := "boxesJoin", unfollowed := true, recurses := true, named := ["unicode/utf8.first", "unicode/utf8.acceptRanges", "soffit/calc.null"], apart := false, laid := [("unicode/utf8.acceptRanges", laid_unicode_utf8_acceptRanges), ("soffit/calc.null", laid_soffit_calc_null), ("unicode/utf8.first", laid_unicode_utf8_first)] }
def BoxesJoinSaid : Prop := boxesJoinRow.holds Tryz.pinned (OpenSpec.ofChange boxesJoinSpec)

/-- ITS FALSE NEIGHBOUR: 'it returns false'. Refute it at one input. -/
def boxesJoinWrong : ChangeSpec := { name := "boxesJoin", fn := fun _ => fun
  | [d1, d2, d3, d4, d5] => { results := [.lit (.bool false)], args := [d1, d2, d3, d4, d5] }
  | _ => none }
def BoxesJoinWrongFalsely : Prop := boxesJoinRow.holds Tryz.pinned (OpenSpec.ofChange boxesJoinWrong)

/-- 'soffitlaw16.BoxesLaws': WHATEVER THE INPUT: true; the input reads as it did. -/
def boxesLawsSpec : ChangeSpec := { name := "boxesLaws", fn := fun _ => fun
  | [d1, d2, d3, d4] => { results := [.lit (.bool true)], args := [d1, d2, d3, d4] }
  | _ => none }
def boxesLawsRow : OpenClaim := { program := "ytankkadnhdfpfaagreatdoor", sum := "7724f515de0ab8a76f9a9671f51ac2eac0ec3a9dcd1f08085ba74c2167bc8ff2", func := "soffit/soffitlaw16.BoxesLaws", spec := "boxesLaws", unfollowed := true, recurses := true, named := ["unicode/utf8.first", "unicode/utf8.acceptRanges", "soffit/calc.null"], apart := false, laid := [("unicode/utf8.acceptRanges", laid_unicode_utf8_acceptRanges), ("soffit/calc.null", laid_soffit_calc_null), ("unicode/utf8.first", laid_unicode_utf8_first)] }
def BoxesLawsSaid : Prop := boxesLawsRow.holds Tryz.pinned (OpenSpec.ofChange boxesLawsSpec)

/-- ITS FALSE NEIGHBOUR: 'it returns false'. Refute it at one input. -/
def boxesLawsWrong : ChangeSpec := { name := "boxesLaws", fn := fun _ => fun
  | [d1, d2, d3, d4] => { results := [.lit (.bool false)], args := [d1, d2, d3, d4] }
  | _ => none }
def BoxesLawsWrongFalsely : Prop := boxesLawsRow.holds Tryz.pinned (OpenSpec.ofChange boxesLawsWrong)

/-- 'soffitlaw15.SetsTypes': WHATEVER THE INPUT: true; the input reads as it did. -/
def setsTypesSpec : ChangeSpec := { name := "setsTypes", fn := fun _ => fun
  | [d1, d2] => { results := [.lit (.bool true)], args := [d1, d2] }
  | _ => none }
def setsTypesRow : OpenClaim := { program := "ytankkadnhdfpfaagreatdoor", sum := "7724f515de0ab8a76f9a9671f51ac2eac0ec3a9dcd1f08085ba74c2167bc8ff2", func := "soffit/soffitlaw15.SetsTypes", spec := "setsTypes", unfollowed := true, recurses := true, named := ["unicode/utf8.first", "unicode/utf8.acceptRanges", "internal/strconv.uint64pow10", "math/bits.deBruijn32tab", "math/bits.deBruijn64tab", "soffit/calc.null"], apart := false, laid := [("math/bits.deBruijn32tab", laid_math_bits_deBruijn32tab), ("math/bits.deBruijn64tab", laid_math_bits_deBruijn64tab), ("internal/strconv.uint64pow10", laid_internal_strconv_uint64pow10), ("unicode/utf8.acceptRanges", laid_unicode_utf8_acceptRanges), ("soffit/calc.null", laid_soffit_calc_null), ("unicode/utf8.first", laid_unicode_utf8_first)] }
def SetsTypesSaid : Prop := setsTypesRow.holds Tryz.pinned (OpenSpec.ofChange setsTypesSpec)

/-- ITS FALSE NEIGHBOUR: 'it returns false'. Refute it at one input. -/
def setsTypesWrong : ChangeSpec := { name := "setsTypes", fn := fun _ => fun
  | [d1, d2] => { results := [.lit (.bool false)], args := [d1, d2] }
  | _ => none }
def SetsTypesWrongFalsely : Prop := setsTypesRow.holds Tryz.pinned (OpenSpec.ofChange setsTypesWrong)

/-- 'soffitlaw15.SetsOf': WHATEVER THE INPUT: true; the input reads as it did. -/
def setsOfSpec : ChangeSpec := { name := "setsOf", fn := fun _ => fun
  | [d1, d2, d3] => { results := [.lit (.bool true)], args := [d1, d2, d3] }
  | _ => none }
def setsOfRow : OpenClaim := { program := "ytankkadnhdfpfaagreatdoor", sum := "7724f515de0ab8a76f9a9671f51ac2eac0ec3a9dcd1f08085ba74c2167bc8ff2", func := "soffit/soffitlaw15.SetsOf", spec := "setsOf", unfollowed := true, recurses := true, named := ["unicode/utf8.first", "unicode/utf8.acceptRanges", "internal/strconv.uint64pow10", "math/bits.deBruijn32tab", "math/bits.deBruijn64tab", "soffit/calc.null"], apart := false, laid := [("math/bits.deBruijn32tab", laid_math_bits_deBruijn32tab), ("math/bits.deBruijn64tab", laid_math_bits_deBruijn64tab), ("internal/strconv.uint64pow10", laid_internal_strconv_uint64pow10), ("unicode/utf8.acceptRanges", laid_unicode_utf8_acceptRanges), ("soffit/calc.null", laid_soffit_calc_null), ("unicode/utf8.first", laid_unicode_utf8_first)] }
def SetsOfSaid : Prop := setsOfRow.holds Tryz.pinned (OpenSpec.ofChange setsOfSpec)

/-- ITS FALSE NEIGHBOUR: 'it returns false'. Refute it at one input. -/
def setsOfWrong : ChangeSpec := { name := "setsOf", fn := fun _ => fun
  | [d1, d2, d3] => { results := [.lit (.bool false)], args := [d1, d2, d3] }
  | _ => none }
def SetsOfWrongFalsely : Prop := setsOfRow.holds Tryz.pinned (OpenSpec.ofChange setsOfWrong)

/-- 'soffitlaw15.SetsOne': WHATEVER THE INPUT: true; the input reads as it did. -/
def setsOneSpec : ChangeSpec := { name := "setsOne", fn := fun _ => fun
  | [d1, d2, d3] => { results := [.lit (.bool true)], args := [d1, d2, d3] }
  | _ => none }
def setsOneRow : OpenClaim := { program := "ytankkadnhdfpfaagreatdoor", sum := "7724f515de0ab8a76f9a9671f51ac2eac0ec3a9dcd1f08085ba74c2167bc8ff2", func := "soffit/soffitlaw15.SetsOne", spec := "setsOne", unfollowed := true, recurses := true, named := ["unicode/utf8.first", "unicode/utf8.acceptRanges", "soffit/calc.null", "internal/strconv.uint64pow10", "math/bits.deBruijn32tab", "math/bits.deBruijn64tab"], apart := false, laid := [("math/bits.deBruijn32tab", laid_math_bits_deBruijn32tab), ("math/bits.deBruijn64tab", laid_math_bits_deBruijn64tab), ("internal/strconv.uint64pow10", laid_internal_strconv_uint64pow10), ("unicode/utf8.acceptRanges", laid_unicode_utf8_acceptRanges), ("soffit/calc.null", laid_soffit_calc_null), ("unicode/utf8.first", laid_unicode_utf8_first)] }
def SetsOneSaid : Prop := setsOneRow.holds Tryz.pinned (OpenSpec.ofChange setsOneSpec)

/-- ITS FALSE NEIGHBOUR: 'it returns false'. Refute it at one input. -/
def setsOneWrong : ChangeSpec := { name := "setsOne", fn := fun _ => fun
  | [d1, d2, d3] => { results := [.lit (.bool false)], args := [d1, d2, d3] }
  | _ => none }
def SetsOneWrongFalsely : Prop := setsOneRow.holds Tryz.pinned (OpenSpec.ofChange setsOneWrong)

/-- 'soffitlaw15.SetsPicks': WHATEVER THE INPUT: true; the input reads as it did. -/
def setsPicksSpec : ChangeSpec := { name := "setsPicks", fn := fun _ => fun
  | [d1, d2] => { results := [.lit (.bool true)], args := [d1, d2] }
  | _ => none }
def setsPicksRow : OpenClaim := { program := "ytankkadnhdfpfaagreatdoor", sum := "7724f515de0ab8a76f9a9671f51ac2eac0ec3a9dcd1f08085ba74c2167bc8ff2", func := "soffit/soffitlaw15.SetsPicks", spec := "setsPicks", unfollowed := true, recurses := true, named := ["unicode/utf8.first", "unicode/utf8.acceptRanges", "internal/strconv.uint64pow10", "math/bits.deBruijn32tab", "math/bits.deBruijn64tab", "soffit/calc.null"], apart := false, laid := [("math/bits.deBruijn32tab", laid_math_bits_deBruijn32tab), ("math/bits.deBruijn64tab", laid_math_bits_deBruijn64tab), ("internal/strconv.uint64pow10", laid_internal_strconv_uint64pow10), ("unicode/utf8.acceptRanges", laid_unicode_utf8_acceptRanges), ("soffit/calc.null", laid_soffit_calc_null), ("unicode/utf8.first", laid_unicode_utf8_first)] }
def SetsPicksSaid : Prop := setsPicksRow.holds Tryz.pinned (OpenSpec.ofChange setsPicksSpec)

/-- ITS FALSE NEIGHBOUR: 'it returns false'. Refute it at one input. -/
def setsPicksWrong : ChangeSpec := { name := "setsPicks", fn := fun _ => fun
  | [d1, d2] => { results := [.lit (.bool false)], args := [d1, d2] }
  | _ => none }
def SetsPicksWrongFalsely : Prop := setsPicksRow.holds Tryz.pinned (OpenSpec.ofChange setsPicksWrong)

/-- 'soffitlaw15.SetsOther': WHATEVER THE INPUT: true; the input reads as it did. -/
def setsOtherSpec : ChangeSpec := { name := "setsOther", fn := fun _ => fun
  | [d1, d2, d3] => { results := [.lit (.bool true)], args := [d1, d2, d3] }
  | _ => none }
def setsOtherRow : OpenClaim := { program := "ytankkadnhdfpfaagreatdoor", sum := "7724f515de0ab8a76f9a9671f51ac2eac0ec3a9dcd1f08085ba74c2167bc8ff2", func := "soffit/soffitlaw15.SetsOther", spec := "setsOther", unfollowed := true, recurses := true, named := ["unicode/utf8.first", "unicode/utf8.acceptRanges", "internal/strconv.uint64pow10", "math/bits.deBruijn32tab", "math/bits.deBruijn64tab", "soffit/calc.null"], apart := false, laid := [("math/bits.deBruijn32tab", laid_math_bits_deBruijn32tab), ("math/bits.deBruijn64tab", laid_math_bits_deBruijn64tab), ("internal/strconv.uint64pow10", laid_internal_strconv_uint64pow10), ("unicode/utf8.acceptRanges", laid_unicode_utf8_acceptRanges), ("soffit/calc.null", laid_soffit_calc_null), ("unicode/utf8.first", laid_unicode_utf8_first)] }
def SetsOtherSaid : Prop := setsOtherRow.holds Tryz.pinned (OpenSpec.ofChange setsOtherSpec)

/-- ITS FALSE NEIGHBOUR: 'it returns false'. Refute it at one input. -/
def setsOtherWrong : ChangeSpec := { name := "setsOther", fn := fun _ => fun
  | [d1, d2, d3] => { results := [.lit (.bool false)], args := [d1, d2, d3] }
  | _ => none }
def SetsOtherWrongFalsely : Prop := setsOtherRow.holds Tryz.pinned (OpenSpec.ofChange setsOtherWrong)

/- THE SECOND FORM. 'bulk': how many values and letters a reading holds, each counted each time it is reached (what is shared counts as often as it is met; a slice's spare places count too). A statement '..UptoSaid' is the law's where the arguments, and the package variables that the reading takes, are together of bulk at most 1048576: NARROWER than '..Said'. Prove '..Said' where nothing that the law and all that it calls make is longer than what came in: it says more and counts as full. Else prove '..UptoSaid'. A law counts once. -/
mutual
def uptoBulk {H : Type} : DataW H → Nat
  | .lit (.string bytes) => bytes.length + 1
  | .lit _ => 1
  | .nil => 1
  | .ptr d => uptoBulk d + 1
  | .slice elems spare => uptoBulkAll elems + uptoBulkAll spare + 1
  | .agg parts => uptoBulkAll parts + 1
  | .iface _ d => uptoBulk d + 1
  | .map entries => uptoBulkEntries entries + 1
  | .held _ => 1
def uptoBulkAll {H : Type} : List (DataW H) → Nat
  | [] => 0
  | d :: r => uptoBulk d + uptoBulkAll r
def uptoBulkEntries {H : Type} : List (Lit × DataW H) → Nat
  | [] => 0
  | x :: r => uptoBulkEntry x + uptoBulkEntries r
def uptoBulkEntry {H : Type} : Lit × DataW H → Nat
  | (.string bytes, d) => bytes.length + uptoBulk d + 1
  | (_, d) => uptoBulk d + 1
 end
def uptoSmall : (H : Type) → List (DataW H) → Bool := fun _ ds => decide (uptoBulkAll ds ≤ 1048576)
def OpenSpec.upto (s : _root_.Go.ChangeSpec) : _root_.Go.OpenSpec := { _root_.Go.OpenSpec.ofChange s with cond := some uptoSmall }

/-- 'soffitlaw15.SetsSplit', WHERE WHAT IT READS IS OF BULK AT MOST 1048576: true; the input reads as it did. -/
def setsSplitUptoRow : OpenClaim := { program := "ytankkadnhdfpfaagreatdoor", sum := "7724f515de0ab8a76f9a9671f51ac2eac0ec3a9dcd1f08085ba74c2167bc8ff2", func := "soffit/soffitlaw15.SetsSplit", spec := "setsSplit", unfollowed := true, recurses := true, named := ["unicode/utf8.first", "unicode/utf8.acceptRanges", "internal/strconv.uint64pow10", "math/bits.deBruijn32tab", "math/bits.deBruijn64tab", "soffit/calc.null"], apart := false, laid := [("math/bits.deBruijn32tab", laid_math_bits_deBruijn32tab), ("math/bits.deBruijn64tab", laid_math_bits_deBruijn64tab), ("internal/strconv.uint64pow10", laid_internal_strconv_uint64pow10), ("unicode/utf8.acceptRanges", laid_unicode_utf8_acceptRanges), ("soffit/calc.null", laid_soffit_calc_null), ("unicode/utf8.first", laid_unicode_utf8_first)], narrowed := true }
def SetsSplitUptoSaid : Prop := setsSplitUptoRow.holds Tryz.pinned (OpenSpec.upto setsSplitSpec)

/-- 'soffitlaw16.BoxesPick', WHERE WHAT IT READS IS OF BULK AT MOST 1048576: true; the input reads as it did. -/
def boxesPickUptoRow : OpenClaim := { program := "ytankkadnhdfpfaagreatdoor", sum := "7724f515de0ab8a76f9a9671f51ac2eac0ec3a9dcd1f08085ba74c2167bc8ff2", func := "soffit/soffitlaw16.BoxesPick", spec := "boxesPick", unfollowed := true, recurses := true, named := ["unicode/utf8.first", "unicode/utf8.acceptRanges", "internal/strconv.uint64pow10", "math/bits.deBruijn32tab", "math/bits.deBruijn64tab", "soffit/calc.null"], apart := false, laid := [("math/bits.deBruijn32tab", laid_math_bits_deBruijn32tab), ("math/bits.deBruijn64tab", laid_math_bits_deBruijn64tab), ("internal/strconv.uint64pow10", laid_internal_strconv_uint64pow10), ("unicode/utf8.acceptRanges", laid_unicode_utf8_acceptRanges), ("soffit/calc.null", laid_soffit_calc_null), ("unicode/utf8.first", laid_unicode_utf8_first)], narrowed := true }
def BoxesPickUptoSaid : Prop := boxesPickUptoRow.holds Tryz.pinned (OpenSpec.upto boxesPickSpec)

/-- 'soffitlaw16.BoxesFull', WHERE WHAT IT READS IS OF BULK AT MOST 1048576: true; the input reads as it did. -/
def boxesFullUptoRow : OpenClaim := { program := "ytankkadnhdfpfaagreatdoor", sum := "7724f515de0ab8a76f9a9671f51ac2eac0ec3a9dcd1f08085ba74c2167bc8ff2", func := "soffit/soffitlaw16.BoxesFull", spec := "boxesFull", unfollowed := true, recurses := true, named := ["unicode/utf8.first", "unicode/utf8.acceptRanges", "soffit/calc.null"], apart := false, laid := [("unicode/utf8.acceptRanges", laid_unicode_utf8_acceptRanges), ("soffit/calc.null", laid_soffit_calc_null), ("unicode/utf8.first", laid_unicode_utf8_first)], narrowed := true }
def BoxesFullUptoSaid : Prop := boxesFullUptoRow.holds Tryz.pinned (OpenSpec.upto boxesFullSpec)

/-- 'soffitlaw16.BoxesJoin', WHERE WHAT IT READS IS OF BULK AT MOST 1048576: true; the input reads as it did. -/
def boxesJoinUptoRow : OpenClaim := { program := "ytankkadnhdfpfaagreatdoor", sum := "7724f515de0ab8a76f9a9671f51ac2eac0ec3a9dcd1f08085ba74c2167bc8ff2", func := "soffit/soffitlaw16.BoxesJoin", spec := "boxesJoin", unfollowed := true, recurses := true, named := ["unicode/utf8.first", "unicode/utf8.acceptRanges", "soffit/calc.null"], apart := false, laid := [("unicode/utf8.acceptRanges", laid_unicode_utf8_acceptRanges), ("soffit/calc.null", laid_soffit_calc_null), ("unicode/utf8.first", laid_unicode_utf8_first)], narrowed := true }
def BoxesJoinUptoSaid : Prop := boxesJoinUptoRow.holds Tryz.pinned (OpenSpec.upto boxesJoinSpec)

/-- 'soffitlaw16.BoxesLaws', WHERE WHAT IT READS IS OF BULK AT MOST 1048576: true; the input reads as it did. -/
def boxesLawsUptoRow : OpenClaim := { program := "ytankkadnhdfpfaagreatdoor", sum := "7724f515de0ab8a76f9a9671f51ac2eac0ec3a9dcd1f08085ba74c2167bc8ff2", func := "soffit/soffitlaw16.BoxesLaws", spec := "boxesLaws", unfollowed := true, recurses := true, named := ["unicode/utf8.first", "unicode/utf8.acceptRanges", "soffit/calc.null"], apart := false, laid := [("unicode/utf8.acceptRanges", laid_unicode_utf8_acceptRanges), ("soffit/calc.null", laid_soffit_calc_null), ("unicode/utf8.first", laid_unicode_utf8_first)], narrowed := true }
def BoxesLawsUptoSaid : Prop := boxesLawsUptoRow.holds Tryz.pinned (OpenSpec.upto boxesLawsSpec)

/-- 'soffitlaw15.SetsTypes', WHERE WHAT IT READS IS OF BULK AT MOST 1048576: true; the input reads as it did. -/
def setsTypesUptoRow : OpenClaim := { program := "ytankkadnhdfpfaagreatdoor", sum := "7724f515de0ab8a76f9a9671f51ac2eac0ec3a9dcd1f08085ba74c2167bc8ff2", func := "soffit/soffitlaw15.SetsTypes", spec := "setsTypes", unfollowed := true, recurses := true, named := ["unicode/utf8.first", "unicode/utf8.acceptRanges", "internal/strconv.uint64pow10", "math/bits.deBruijn32tab", "math/bits.deBruijn64tab", "soffit/calc.null"], apart := false, laid := [("math/bits.deBruijn32tab", laid_math_bits_deBruijn32tab), ("math/bits.deBruijn64tab", laid_math_bits_deBruijn64tab), ("internal/strconv.uint64pow10", laid_internal_strconv_uint64pow10), ("unicode/utf8.acceptRanges", laid_unicode_utf8_acceptRanges), ("soffit/calc.null", laid_soffit_calc_null), ("unicode/utf8.first", laid_unicode_utf8_first)], narrowed := true }
def SetsTypesUptoSaid : Prop := setsTypesUptoRow.holds Tryz.pinned (OpenSpec.upto setsTypesSpec)

/-- 'soffitlaw15.SetsOf', WHERE WHAT IT READS IS OF BULK AT MOST 1048576: true; the input reads as it did. -/
def setsOfUptoRow : OpenClaim := { program := "ytankkadnhdfpfaagreatdoor", sum := "7724f515de0ab8a76f9a9671f51ac2eac0ec3a9dcd1f08085ba74c2167bc8ff2", func := "soffit/soffitlaw15.SetsOf", spec := "setsOf", unfollowed := true, recurses := true, named := ["unicode/utf8.first", "unicode/utf8.acceptRanges", "internal/strconv.uint64pow10", "math/bits.deBruijn32tab", "math/bits.deBruijn64tab", "soffit/calc.null"], apart := false, laid := [("math/bits.deBruijn32tab", laid_math_bits_deBruijn32tab), ("math/bits.deBruijn64tab", laid_math_bits_deBruijn64tab), ("internal/strconv.uint64pow10", laid_internal_strconv_uint64pow10), ("unicode/utf8.acceptRanges", laid_unicode_utf8_acceptRanges), ("soffit/calc.null", laid_soffit_calc_null), ("unicode/utf8.first", laid_unicode_utf8_first)], narrowed := true }
def SetsOfUptoSaid : Prop := setsOfUptoRow.holds Tryz.pinned (OpenSpec.upto setsOfSpec)

/-- 'soffitlaw15.SetsOne', WHERE WHAT IT READS IS OF BULK AT MOST 1048576: true; the input reads as it did. -/
def setsOneUptoRow : OpenClaim := { program := "ytankkadnhdfpfaagreatdoor", sum := "7724f515de0ab8a76f9a9671f51ac2eac0ec3a9dcd1f08085ba74c2167bc8ff2", func := "soffit/soffitlaw15.SetsOne", spec := "setsOne", unfollowed := true, recurses := true, named := ["unicode/utf8.first", "unicode/utf8.acceptRanges", "soffit/calc.null", "internal/strconv.uint64pow10", "math/bits.deBruijn32tab", "math/bits.deBruijn64tab"], apart := false, laid := [("math/bits.deBruijn32tab", laid_math_bits_deBruijn32tab), ("math/bits.deBruijn64tab", laid_math_bits_deBruijn64tab), ("internal/strconv.uint64pow10", laid_internal_strconv_uint64pow10), ("unicode/utf8.acceptRanges", laid_unicode_utf8_acceptRanges), ("soffit/calc.null", laid_soffit_calc_null), ("unicode/utf8.first", laid_unicode_utf8_first)], narrowed := true }
def SetsOneUptoSaid : Prop := setsOneUptoRow.holds Tryz.pinned (OpenSpec.upto setsOneSpec)

/-- 'soffitlaw15.SetsPicks', WHERE WHAT IT READS IS OF BULK AT MOST 1048576: true; the input reads as it did. -/
def setsPicksUptoRow : OpenClaim := { program := "ytankkadnhdfpfaagreatdoor", sum := "7724f515de0ab8a76f9a9671f51ac2eac0ec3a9dcd1f08085ba74c2167bc8ff2", func := "soffit/soffitlaw15.SetsPicks", spec := "setsPicks", unfollowed := true, recurses := true, named := ["unicode/utf8.first", "unicode/utf8.acceptRanges", "internal/strconv.uint64pow10", "math/bits.deBruijn32tab", "math/bits.deBruijn64tab", "soffit/calc.null"], apart := false, laid := [("math/bits.deBruijn32tab", laid_math_bits_deBruijn32tab), ("math/bits.deBruijn64tab", laid_math_bits_deBruijn64tab), ("internal/strconv.uint64pow10", laid_internal_strconv_uint64pow10), ("unicode/utf8.acceptRanges", laid_unicode_utf8_acceptRanges), ("soffit/calc.null", laid_soffit_calc_null), ("unicode/utf8.first", laid_unicode_utf8_first)], narrowed := true }
def SetsPicksUptoSaid : Prop := setsPicksUptoRow.holds Tryz.pinned (OpenSpec.upto setsPicksSpec)

/-- 'soffitlaw15.SetsOther', WHERE WHAT IT READS IS OF BULK AT MOST 1048576: true; the input reads as it did. -/
def setsOtherUptoRow : OpenClaim := { program := "ytankkadnhdfpfaagreatdoor", sum := "7724f515de0ab8a76f9a9671f51ac2eac0ec3a9dcd1f08085ba74c2167bc8ff2", func := "soffit/soffitlaw15.SetsOther", spec := "setsOther", unfollowed := true, recurses := true, named := ["unicode/utf8.first", "unicode/utf8.acceptRanges", "internal/strconv.uint64pow10", "math/bits.deBruijn32tab", "math/bits.deBruijn64tab", "soffit/calc.null"], apart := false, laid := [("math/bits.deBruijn32tab", laid_math_bits_deBruijn32tab), ("math/bits.deBruijn64tab", laid_math_bits_deBruijn64tab), ("internal/strconv.uint64pow10", laid_internal_strconv_uint64pow10), ("unicode/utf8.acceptRanges", laid_unicode_utf8_acceptRanges), ("soffit/calc.null", laid_soffit_calc_null), ("unicode/utf8.first", laid_unicode_utf8_first)], narrowed := true }
def SetsOtherUptoSaid : Prop := setsOtherUptoRow.holds Tryz.pinned (OpenSpec.upto setsOtherSpec)

end Rows
end Go.Proofs.YtankkadnhdfpfaaGreatDoor
