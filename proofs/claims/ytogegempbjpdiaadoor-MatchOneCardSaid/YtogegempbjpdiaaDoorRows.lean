/-
  NARROWER THAN 'FOR EVERY INPUT', by the rows' own cells (each row's printed sentence says how): MatchAll: laid · MatchRow: laid · MatchOne: laid · MatchTurned: laid · MatchBetween: laid.
  DERIVED. THE GIVEN ROWS OF THIS SEAT. 5 by the template 'for every input the law returns true; each argument reads behind the call as it read before'; 0 by the template 'total and deterministic' (their statements: YtogegempbjpdiaaDoorTotals.lean).
  GIVEN WITH THE SEED: the statements are not yours to turn. If you find one false, say at which input.
  Laid BY PROGRAM, IN A SANDBOX (cutbox-rows.mjs): the forced cells as the released guide's own fill.sh prints them over the translation c4460f63e3650bc1… (all of the seat's roots in one cut). By AI agents, Wed Nov 11 2026. No macro, syntax, notation, axiom, sorry.
-/
import Derived.Test.YtogegempbjpdiaaDoorChecked
import GoSem.PinnedTables
import GoSem.Claim
import GoSem.ClaimJoined
import GoSem.ClaimMapViews
import Derived.JoinedTies
import Derived.KernelRfl
namespace Go.Proofs.YtogegempbjpdiaaDoor
/- THE CELL 'sum', in the pinned program and in every row, IS THE sha256 OF THE DUMP (.gsa) THAT YtogegempbjpdiaaDoorProg.lean LOADS. Nothing in Lean hashes anything: it is a label: what it is worth is what the hold of that sum in a sandbox is worth. -/
noncomputable def Tryd.pinned : Pinned := { name := "ytogegempbjpdiaadoor", sum := "c4460f63e3650bc10f1bf64169e8da51b1c5407ffc8d8744d50f0743a68c08a2", checked := Tryd.checked }
namespace Rows
def none {H : Type} : Left H := { results := [], args := [] }

/- WHAT THE LISTED PACKAGE-LEVEL VARIABLES READ AS WHEN THE CALL BEGINS. Each datum BY PROGRAM (the guide's laid-datum.mjs) off the statement by which the dump's own 'gosem.cut.vars' lays the variable. In a bare row this is a premise. The card (YtogegempbjpdiaaDoorCards.lean) ties it to the program's text. -/
def laid_unicode_utf8_acceptRanges {H : Type} : DataW H := .agg [.agg [.lit (.int .u8 128), .lit (.int .u8 191)], .agg [.lit (.int .u8 160), .lit (.int .u8 191)], .agg [.lit (.int .u8 128), .lit (.int .u8 159)], .agg [.lit (.int .u8 144), .lit (.int .u8 191)], .agg [.lit (.int .u8 128), .lit (.int .u8 143)], .agg [.lit (.int .u8 0), .lit (.int .u8 0)], .agg [.lit (.int .u8 0), .lit (.int .u8 0)], .agg [.lit (.int .u8 0), .lit (.int .u8 0)], .agg [.lit (.int .u8 0), .lit (.int .u8 0)], .agg [.lit (.int .u8 0), .lit (.int .u8 0)], .agg [.lit (.int .u8 0), .lit (.int .u8 0)], .agg [.lit (.int .u8 0), .lit (.int .u8 0)], .agg [.lit (.int .u8 0), .lit (.int .u8 0)], .agg [.lit (.int .u8 0), .lit (.int .u8 0)], .agg [.lit (.int .u8 0), .lit (.int .u8 0)], .agg [.lit (.int .u8 0), .lit (.int .u8 0)]]
def laid_soffit_calc_null {H : Type} : DataW H := .agg [.lit (.int .i64 0), .agg [.lit (.int .i64 0), .lit (.int .i64 0)], .lit (.string []), .lit (.int .i64 0)]
/-- One of Go's own tables, pinned by name: the form's constant. -/
def laid_unicode_utf8_first : DataW Unit := Go.Pinned.utf8First

/-- 'soffitlaw12.MatchAll': WHATEVER THE INPUT: true; the input reads as it did. -/
def matchAllSpec : ChangeSpec := { name := "matchAll", fn := fun _ => fun
  | [d1, d2] => { results := [.lit (.bool true)], args := [d1, d2] }
  | _ => none }
def matchAllRow : OpenClaim := { program := "ytogegempbjpdiaadoor", sum := "c4460f63e3650bc10f1bf64169e8da51b1c5407ffc8d8744d50f0743a68c08a2", func := "soffit/soffitlaw12.MatchAll", spec := "matchAll", unfollowed := true, recurses := true, named := ["unicode/utf8.first", "unicode/utf8.acceptRanges", "soffit/calc.null"], apart := false, laid := [("unicode/utf8.acceptRanges", laid_unicode_utf8_acceptRanges), ("soffit/calc.null", laid_soffit_calc_null), ("unicode/utf8.first", laid_unicode_utf8_first)] }
def MatchAllSaid : Prop := matchAllRow.holds Tryd.pinned (OpenSpec.ofChange matchAllSpec)

/-- ITS FALSE NEIGHBOUR: 'it returns false'. Refute it at one input. -/
def matchAllWrong : ChangeSpec := { name := "matchAll", fn := fun _ => fun
  | [d1, d2] => { results := [.lit (.bool false)], args := [d1, d2] }
  | _ => none }
def MatchAllWrongFalsely : Prop := matchAllRow.holds Tryd.pinned (OpenSpec.ofChange matchAllWrong)

/-- 'soffitlaw12.MatchRow': WHATEVER THE INPUT: true; the input reads as it did. -/
def matchRowSpec : ChangeSpec := { name := "matchRow", fn := fun _ => fun
  | [d1, d2] => { results := [.lit (.bool true)], args := [d1, d2] }
  | _ => none }
def matchRowRow : OpenClaim := { program := "ytogegempbjpdiaadoor", sum := "c4460f63e3650bc10f1bf64169e8da51b1c5407ffc8d8744d50f0743a68c08a2", func := "soffit/soffitlaw12.MatchRow", spec := "matchRow", unfollowed := true, recurses := true, named := ["unicode/utf8.first", "unicode/utf8.acceptRanges", "soffit/calc.null"], apart := false, laid := [("unicode/utf8.acceptRanges", laid_unicode_utf8_acceptRanges), ("soffit/calc.null", laid_soffit_calc_null), ("unicode/utf8.first", laid_unicode_utf8_first)] }
def MatchRowSaid : Prop := matchRowRow.holds Tryd.pinned (OpenSpec.ofChange matchRowSpec)

/-- ITS FALSE NEIGHBOUR: 'it returns false'. Refute it at one input. -/
def matchRowWrong : ChangeSpec := { name := "matchRow", fn := fun _ => fun
  | [d1, d2] => { results := [.lit (.bool false)], args := [d1, d2] }
  | _ => none }
def MatchRowWrongFalsely : Prop := matchRowRow.holds Tryd.pinned (OpenSpec.ofChange matchRowWrong)

/-- 'soffitlaw12.MatchOne': WHATEVER THE INPUT: true; the input reads as it did. -/
def matchOneSpec : ChangeSpec := { name := "matchOne", fn := fun _ => fun
  | [d1, d2] => { results := [.lit (.bool true)], args := [d1, d2] }
  | _ => none }
def matchOneRow : OpenClaim := { program := "ytogegempbjpdiaadoor", sum := "c4460f63e3650bc10f1bf64169e8da51b1c5407ffc8d8744d50f0743a68c08a2", func := "soffit/soffitlaw12.MatchOne", spec := "matchOne", unfollowed := true, recurses := true, named := ["unicode/utf8.first", "unicode/utf8.acceptRanges", "soffit/calc.null"], apart := false, laid := [("unicode/utf8.acceptRanges", laid_unicode_utf8_acceptRanges), ("soffit/calc.null", laid_soffit_calc_null), ("unicode/utf8.first", laid_unicode_utf8_first)] }
def MatchOneSaid : Prop := matchOneRow.holds Tryd.pinned (OpenSpec.ofChange matchOneSpec)

/-- ITS FALSE NEIGHBOUR: 'it returns false'. Refute it at one input. -/
def matchOneWrong : ChangeSpec := { name := "matchOne", fn := fun _ => fun
  | [d1, d2] => { results := [.lit (.bool false)], args := [d1, d2] }
  | _ => none }
def MatchOneWrongFalsely : Prop := matchOneRow.holds Tryd.pinned (OpenSpec.ofChange matchOneWrong)

/-- 'soffitlaw12.MatchTurned': WHATEVER THE INPUT: true; the input reads as it did. -/
def matchTurnedSpec : ChangeSpec := { name := "matchTurned", fn := fun _ => fun
  | [d1, d2, d3] => { results := [.lit (.bool true)], args := [d1, d2, d3] }
  | _ => none }
def matchTurnedRow : OpenClaim := { program := "ytogegempbjpdiaadoor", sum := "c4460f63e3650bc10f1bf64169e8da51b1c5407ffc8d8744d50f0743a68c08a2", func := "soffit/soffitlaw12.MatchTurned", spec := "matchTurned", unfollowed := true, recurses := true, named := ["unicode/utf8.first", "unicode/utf8.acceptRanges", "soffit/calc.null"], apart := false, laid := [("unicode/utf8.acceptRanges", laid_unicode_utf8_acceptRanges), ("soffit/calc.null", laid_soffit_calc_null), ("unicode/utf8.first", laid_unicode_utf8_first)] }
def MatchTurnedSaid : Prop := matchTurnedRow.holds Tryd.pinned (OpenSpec.ofChange matchTurnedSpec)

/-- ITS FALSE NEIGHBOUR: 'it returns false'. Refute it at one input. -/
def matchTurnedWrong : ChangeSpec := { name := "matchTurned", fn := fun _ => fun
  | [d1, d2, d3] => { results := [.lit (.bool false)], args := [d1, d2, d3] }
  | _ => none }
def MatchTurnedWrongFalsely : Prop := matchTurnedRow.holds Tryd.pinned (OpenSpec.ofChange matchTurnedWrong)

/-- 'soffitlaw12.MatchBetween': WHATEVER THE INPUT: true; the input reads as it did. -/
def matchBetweenSpec : ChangeSpec := { name := "matchBetween", fn := fun _ => fun
  | [d1, d2, d3, d4, d5] => { results := [.lit (.bool true)], args := [d1, d2, d3, d4, d5] }
  | _ => none }
def matchBetweenRow : OpenClaim := { program := "ytogegempbjpdiaadoor", sum := "c4460f63e3650bc10f1bf64169e8da51b1c5407ffc8d8744d50f0743a68c08a2", func := "soffit/soffitlaw12.MatchBetween", spec := "matchBetween", unfollowed := true, recurses := true, named := ["unicode/utf8.first", "unicode/utf8.acceptRanges", "soffit/calc.null"], apart := false, laid := [("unicode/utf8.acceptRanges", laid_unicode_utf8_acceptRanges), ("soffit/calc.null", laid_soffit_calc_null), ("unicode/utf8.first", laid_unicode_utf8_first)] }
def MatchBetweenSaid : Prop := matchBetweenRow.holds Tryd.pinned (OpenSpec.ofChange matchBetweenSpec)

/-- ITS FALSE NEIGHBOUR: 'it returns false'. Refute it at one input. -/
def matchBetweenWrong : ChangeSpec := { name := "matchBetween", fn := fun _ => fun
  | [d1, d2, d3, d4, d5] => { results := [.lit (.bool false)], args := [d1, d2, d3, d4, d5] }
  | _ => none }
def MatchBetweenWrongFalsely : Prop := matchBetweenRow.holds Tryd.pinned (OpenSpec.ofChange matchBetweenWrong)

/- THE SECOND FORM. 'bulk': how many values and letters a reading holds, each counted each time it is reached (what is shared counts as often as it is met; a slice's spare places count too). A statement '..UptoSaid' is the law's where the arguments, and the package variables that the reading takes, are together of bulk at most 1048576: NARROWER than '..Said'. Prove '..Said' where nothing that the law and all that it calls make is longer than what came in: it says more and counts as full. Else prove '..UptoSaid'. A law counts once. -/
mutual
def uptoBulk {H : Type} : DataW H → Nat
  | .lit (.string bytes) => bytes.length + 1
  | .lit _ => 1
  | .nil => 1
  | .ptr d => uptoBulk d + 1
  | .slice elems spare => uptoBulkAll elems + uptoBulkAll spare + 1
  | .agg parts => uptoBulkAll parts + 1
  | .iface _ d => uptoBulk d + 1
  | .map entries => uptoBulkEntries entries + 1
  | .held _ => 1
def uptoBulkAll {H : Type} : List (DataW H) → Nat
  | [] => 0
  | d :: r => uptoBulk d + uptoBulkAll r
def uptoBulkEntries {H : Type} : List (Lit × DataW H) → Nat
  | [] => 0
  | x :: r => uptoBulkEntry x + uptoBulkEntries r
def uptoBulkEntry {H : Type} : Lit × DataW H → Nat
  | (.string bytes, d) => bytes.length + uptoBulk d + 1
  | (_, d) => uptoBulk d + 1
 end
def uptoSmall : (H : Type) → List (DataW H) → Bool := fun _ ds => decide (uptoBulkAll ds ≤ 1048576)
def OpenSpec.upto (s : _root_.Go.ChangeSpec) : _root_.Go.OpenSpec := { _root_.Go.OpenSpec.ofChange s with cond := some uptoSmall }

/-- 'soffitlaw12.MatchAll', WHERE WHAT IT READS IS OF BULK AT MOST 1048576: true; the input reads as it did. -/
def matchAllUptoRow : OpenClaim := { program := "ytogegempbjpdiaadoor", sum := "c4460f63e3650bc10f1bf64169e8da51b1c5407ffc8d8744d50f0743a68c08a2", func := "soffit/soffitlaw12.MatchAll", spec := "matchAll", unfollowed := true, recurses := true, named := ["unicode/utf8.first", "unicode/utf8.acceptRanges", "soffit/calc.null"], apart := false, laid := [("unicode/utf8.acceptRanges", laid_unicode_utf8_acceptRanges), ("soffit/calc.null", laid_soffit_calc_null), ("unicode/utf8.first", laid_unicode_utf8_first)], narrowed := true }
def MatchAllUptoSaid : Prop := matchAllUptoRow.holds Tryd.pinned (OpenSpec.upto matchAllSpec)

/-- 'soffitlaw12.MatchRow', WHERE WHAT IT READS IS OF BULK AT MOST 1048576: true; the input reads as it did. -/
def matchRowUptoRow : OpenClaim := { program := "ytogegempbjpdiaadoor", sum := "c4460f63e3650bc10f1bf64169e8da51b1c5407ffc8d8744d50f0743a68c08a2", func := "soffit/soffitlaw12.MatchRow", spec := "matchRow", unfollowed := true, recurses := true, named := ["unicode/utf8.first", "unicode/utf8.acceptRanges", "soffit/calc.null"], apart := false, laid := [("unicode/utf8.acceptRanges", laid_unicode_utf8_acceptRanges), ("soffit/calc.null", laid_soffit_calc_null), ("unicode/utf8.first", laid_unicode_utf8_first)], narrowed := true }
def MatchRowUptoSaid : Prop := matchRowUptoRow.holds Tryd.pinned (OpenSpec.upto matchRowSpec)

/-- 'soffitlaw12.MatchOne', WHERE WHAT IT READS IS OF BULK AT MOST 1048576: true; the input reads as it did. -/
def matchOneUptoRow : OpenClaim := { program := "ytogegempbjpdiaadoor", sum := "c4460f63e3650bc10f1bf64169e8da51b1c5407ffc8d8744d50f0743a68c08a2", func := "soffit/soffitlaw12.MatchOne", spec := "matchOne", unfollowed := true, recurses := true, named := ["unicode/utf8.first", "unicode/utf8.acceptRanges", "soffit/calc.null"], apart := false, laid := [("unicode/utf8.acceptRanges", laid_unicode_utf8_acceptRanges), ("soffit/calc.null", laid_soffit_calc_null), ("unicode/utf8.first", laid_unicode_utf8_first)], narrowed := true }
def MatchOneUptoSaid : Prop := matchOneUptoRow.holds Tryd.pinned (OpenSpec.upto matchOneSpec)

/-- 'soffitlaw12.MatchTurned', WHERE WHAT IT READS IS OF BULK AT MOST 1048576: true; the input reads as it did. -/
def matchTurnedUptoRow : OpenClaim := { program := "ytogegempbjpdiaadoor", sum := "c4460f63e3650bc10f1bf64169e8da51b1c5407ffc8d8744d50f0743a68c08a2", func := "soffit/soffitlaw12.MatchTurned", spec := "matchTurned", unfollowed := true, recurses := true, named := ["unicode/utf8.first", "unicode/utf8.acceptRanges", "soffit/calc.null"], apart := false, laid := [("unicode/utf8.acceptRanges", laid_unicode_utf8_acceptRanges), ("soffit/calc.null", laid_soffit_calc_null), ("unicode/utf8.first", laid_unicode_utf8_first)], narrowed := true }
def MatchTurnedUptoSaid : Prop := matchTurnedUptoRow.holds Tryd.pinned (OpenSpec.upto matchTurnedSpec)

/-- 'soffitlaw12.MatchBetween', WHERE WHAT IT READS IS OF BULK AT MOST 1048576: true; the input reads as it did. -/
def matchBetweenUptoRow : OpenClaim := { program := "ytogegempbjpdiaadoor", sum := "c4460f63e3650bc10f1bf64169e8da51b1c5407ffc8d8744d50f0743a68c08a2", func := "soffit/soffitlaw12.MatchBetween", spec := "matchBetween", unfollowed := true, recurses := true, named := ["unicode/utf8.first", "unicode/utf8.acceptRanges", "soffit/calc.null"], apart := false, laid := [("unicode/utf8.acceptRanges", laid_unicode_utf8_acceptRanges), ("soffit/calc.null", laid_soffit_calc_null), ("unicode/utf8.first", laid_unicode_utf8_first)], narrowed := true }
def MatchBetweenUptoSaid : Prop := matchBetweenUptoRow.holds Tryd.pinned (OpenSpec.upto matchBetweenSpec)

end Rows
end Go.Proofs.YtogegempbjpdiaaDoor
