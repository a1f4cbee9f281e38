/-
  NARROWER THAN 'FOR EVERY INPUT', by the rows' own cells (each row's printed sentence says how): PolicyOutcomes: laid · PolicyAmong: laid · PolicyOrder: laid · PolicyEnds: laid · PolicyFirst: laid · PolicyCounts: laid.
  DERIVED. THE GIVEN ROWS OF THIS SEAT. 6 by the template 'for every input the law returns true; each argument reads behind the call as it read before'; 0 by the template 'total and deterministic' (their statements: YtfhmjkdpohepaaaDoorTotals.lean).
  GIVEN WITH THE SEED: the statements are not yours to turn. If you find one false, say at which input.
  Laid BY PROGRAM, IN A SANDBOX (cutbox-rows.mjs): the forced cells as the released guide's own fill.sh prints them over the translation c33733af60253f01… (all of the seat's roots in one cut). By AI agents, Wed Nov 11 2026. No macro, syntax, notation, axiom, sorry.
-/
import Derived.Test.YtfhmjkdpohepaaaDoorChecked
import GoSem.PinnedTables
import GoSem.Claim
import GoSem.ClaimJoined
import GoSem.ClaimMapViews
import Derived.JoinedTies
import Derived.KernelRfl
namespace Go.Proofs.YtfhmjkdpohepaaaDoor
/- THE CELL 'sum', in the pinned program and in every row, IS THE sha256 OF THE DUMP (.gsa) THAT YtfhmjkdpohepaaaDoorProg.lean LOADS. Nothing in Lean hashes anything: it is a label: what it is worth is what the hold of that sum in a sandbox is worth. -/
noncomputable def Tryd.pinned : Pinned := { name := "ytfhmjkdpohepaaadoor", sum := "c33733af60253f0163fff62434073629afe16193b84a08de10a87f5bc3dc8dbf", checked := Tryd.checked }
namespace Rows
def none {H : Type} : Left H := { results := [], args := [] }

/- WHAT THE LISTED PACKAGE-LEVEL VARIABLES READ AS WHEN THE CALL BEGINS. Each datum BY PROGRAM (the guide's laid-datum.mjs) off the statement by which the dump's own 'gosem.cut.vars' lays the variable. In a bare row this is a premise. The card (YtfhmjkdpohepaaaDoorCards.lean) ties it to the program's text. -/
def laid_unicode_utf8_acceptRanges {H : Type} : DataW H := .agg [.agg [.lit (.int .u8 128), .lit (.int .u8 191)], .agg [.lit (.int .u8 160), .lit (.int .u8 191)], .agg [.lit (.int .u8 128), .lit (.int .u8 159)], .agg [.lit (.int .u8 144), .lit (.int .u8 191)], .agg [.lit (.int .u8 128), .lit (.int .u8 143)], .agg [.lit (.int .u8 0), .lit (.int .u8 0)], .agg [.lit (.int .u8 0), .lit (.int .u8 0)], .agg [.lit (.int .u8 0), .lit (.int .u8 0)], .agg [.lit (.int .u8 0), .lit (.int .u8 0)], .agg [.lit (.int .u8 0), .lit (.int .u8 0)], .agg [.lit (.int .u8 0), .lit (.int .u8 0)], .agg [.lit (.int .u8 0), .lit (.int .u8 0)], .agg [.lit (.int .u8 0), .lit (.int .u8 0)], .agg [.lit (.int .u8 0), .lit (.int .u8 0)], .agg [.lit (.int .u8 0), .lit (.int .u8 0)], .agg [.lit (.int .u8 0), .lit (.int .u8 0)]]
/-- One of Go's own tables, pinned by name: the form's constant. -/
def laid_unicode_utf8_first : DataW Unit := Go.Pinned.utf8First

/-- 'soffitlaw17.PolicyOutcomes': WHATEVER THE INPUT: true; the input reads as it did. -/
def policyOutcomesSpec : ChangeSpec := { name := "policyOutcomes", fn := fun _ => fun
  | [d1, d2, d3, d4, d5] => { results := [.lit (.bool true)], args := [d1, d2, d3, d4, d5] }
  | _ => none }
def policyOutcomesRow : OpenClaim := { program := "ytfhmjkdpohepaaadoor", sum := "c33733af60253f0163fff62434073629afe16193b84a08de10a87f5bc3dc8dbf", func := "soffit/soffitlaw17.PolicyOutcomes", spec := "policyOutcomes", unfollowed := true, recurses := true, named := ["unicode/utf8.first", "unicode/utf8.acceptRanges"], apart := false, laid := [("unicode/utf8.acceptRanges", laid_unicode_utf8_acceptRanges), ("unicode/utf8.first", laid_unicode_utf8_first)] }
def PolicyOutcomesSaid : Prop := policyOutcomesRow.holds Tryd.pinned (OpenSpec.ofChange policyOutcomesSpec)

/-- ITS FALSE NEIGHBOUR: 'it returns false'. Refute it at one input. -/
def policyOutcomesWrong : ChangeSpec := { name := "policyOutcomes", fn := fun _ => fun
  | [d1, d2, d3, d4, d5] => { results := [.lit (.bool false)], args := [d1, d2, d3, d4, d5] }
  | _ => none }
def PolicyOutcomesWrongFalsely : Prop := policyOutcomesRow.holds Tryd.pinned (OpenSpec.ofChange policyOutcomesWrong)

/-- 'soffitlaw17.PolicyAmong': WHATEVER THE INPUT: true; the input reads as it did. -/
def policyAmongSpec : ChangeSpec := { name := "policyAmong", fn := fun _ => fun
  | [d1, d2, d3, d4] => { results := [.lit (.bool true)], args := [d1, d2, d3, d4] }
  | _ => none }
def policyAmongRow : OpenClaim := { program := "ytfhmjkdpohepaaadoor", sum := "c33733af60253f0163fff62434073629afe16193b84a08de10a87f5bc3dc8dbf", func := "soffit/soffitlaw17.PolicyAmong", spec := "policyAmong", unfollowed := true, recurses := true, named := ["unicode/utf8.first", "unicode/utf8.acceptRanges"], apart := false, laid := [("unicode/utf8.acceptRanges", laid_unicode_utf8_acceptRanges), ("unicode/utf8.first", laid_unicode_utf8_first)] }
def PolicyAmongSaid : Prop := policyAmongRow.holds Tryd.pinned (OpenSpec.ofChange policyAmongSpec)

/-- ITS FALSE NEIGHBOUR: 'it returns false'. Refute it at one input. -/
def policyAmongWrong : ChangeSpec := { name := "policyAmong", fn := fun _ => fun
  | [d1, d2, d3, d4] => { results := [.lit (.bool false)], args := [d1, d2, d3, d4] }
  | _ => none }
def PolicyAmongWrongFalsely : Prop := policyAmongRow.holds Tryd.pinned (OpenSpec.ofChange policyAmongWrong)

/-- 'soffitlaw17.PolicyOrder': WHATEVER THE INPUT: true; the input reads as it did. -/
def policyOrderSpec : ChangeSpec := { name := "policyOrder", fn := fun _ => fun
  | [d1, d2, d3] => { results := [.lit (.bool true)], args := [d1, d2, d3] }
  | _ => none }
def policyOrderRow : OpenClaim := { program := "ytfhmjkdpohepaaadoor", sum := "c33733af60253f0163fff62434073629afe16193b84a08de10a87f5bc3dc8dbf", func := "soffit/soffitlaw17.PolicyOrder", spec := "policyOrder", unfollowed := true, recurses := true, named := ["unicode/utf8.first", "unicode/utf8.acceptRanges"], apart := false, laid := [("unicode/utf8.acceptRanges", laid_unicode_utf8_acceptRanges), ("unicode/utf8.first", laid_unicode_utf8_first)] }
def PolicyOrderSaid : Prop := policyOrderRow.holds Tryd.pinned (OpenSpec.ofChange policyOrderSpec)

/-- ITS FALSE NEIGHBOUR: 'it returns false'. Refute it at one input. -/
def policyOrderWrong : ChangeSpec := { name := "policyOrder", fn := fun _ => fun
  | [d1, d2, d3] => { results := [.lit (.bool false)], args := [d1, d2, d3] }
  | _ => none }
def PolicyOrderWrongFalsely : Prop := policyOrderRow.holds Tryd.pinned (OpenSpec.ofChange policyOrderWrong)

/-- 'soffitlaw17.PolicyEnds': WHATEVER THE INPUT: true; the input reads as it did. -/
def policyEndsSpec : ChangeSpec := { name := "policyEnds", fn := fun _ => fun
  | [d1, d2] => { results := [.lit (.bool true)], args := [d1, d2] }
  | _ => none }
def policyEndsRow : OpenClaim := { program := "ytfhmjkdpohepaaadoor", sum := "c33733af60253f0163fff62434073629afe16193b84a08de10a87f5bc3dc8dbf", func := "soffit/soffitlaw17.PolicyEnds", spec := "policyEnds", unfollowed := true, recurses := true, named := ["unicode/utf8.first", "unicode/utf8.acceptRanges"], apart := false, laid := [("unicode/utf8.acceptRanges", laid_unicode_utf8_acceptRanges), ("unicode/utf8.first", laid_unicode_utf8_first)] }
def PolicyEndsSaid : Prop := policyEndsRow.holds Tryd.pinned (OpenSpec.ofChange policyEndsSpec)

/-- ITS FALSE NEIGHBOUR: 'it returns false'. Refute it at one input. -/
def policyEndsWrong : ChangeSpec := { name := "policyEnds", fn := fun _ => fun
  | [d1, d2] => { results := [.lit (.bool false)], args := [d1, d2] }
  | _ => none }
def PolicyEndsWrongFalsely : Prop := policyEndsRow.holds Tryd.pinned (OpenSpec.ofChange policyEndsWrong)

/-- 'soffitlaw17.PolicyFirst': WHATEVER THE INPUT: true; the input reads as it did. -/
def policyFirstSpec : ChangeSpec := { name := "policyFirst", fn := fun _ => fun
  | [d1, d2, d3] => { results := [.lit (.bool true)], args := [d1, d2, d3] }
  | _ => none }
def policyFirstRow : OpenClaim := { program := "ytfhmjkdpohepaaadoor", sum := "c33733af60253f0163fff62434073629afe16193b84a08de10a87f5bc3dc8dbf", func := "soffit/soffitlaw17.PolicyFirst", spec := "policyFirst", unfollowed := true, recurses := true, named := ["unicode/utf8.first", "unicode/utf8.acceptRanges"], apart := false, laid := [("unicode/utf8.acceptRanges", laid_unicode_utf8_acceptRanges), ("unicode/utf8.first", laid_unicode_utf8_first)] }
def PolicyFirstSaid : Prop := policyFirstRow.holds Tryd.pinned (OpenSpec.ofChange policyFirstSpec)

/-- ITS FALSE NEIGHBOUR: 'it returns false'. Refute it at one input. -/
def policyFirstWrong : ChangeSpec := { name := "policyFirst", fn := fun _ => fun
  | [d1, d2, d3] => { results := [.lit (.bool false)], args := [d1, d2, d3] }
  | _ => none }
def PolicyFirstWrongFalsely : Prop := policyFirstRow.holds Tryd.pinned (OpenSpec.ofChange policyFirstWrong)

/-- 'soffitlaw17.PolicyCounts': WHATEVER THE INPUT: true; the input reads as it did. -/
def policyCountsSpec : ChangeSpec := { name := "policyCounts", fn := fun _ => fun
  | [d1, d2] => { results := [.lit (.bool true)], args := [d1, d2] }
  | _ => none }
def policyCountsRow : OpenClaim := { program := "ytfhmjkdpohepaaadoor", sum := "c33733af60253f0163fff62434073629afe16193b84a08de10a87f5bc3dc8dbf", func := "soffit/soffitlaw17.PolicyCounts", spec := "policyCounts", unfollowed := true, recurses := true, named := ["unicode/utf8.first", "unicode/utf8.acceptRanges"], apart := false, laid := [("unicode/utf8.acceptRanges", laid_unicode_utf8_acceptRanges), ("unicode/utf8.first", laid_unicode_utf8_first)] }
def PolicyCountsSaid : Prop := policyCountsRow.holds Tryd.pinned (OpenSpec.ofChange policyCountsSpec)

/-- ITS FALSE NEIGHBOUR: 'it returns false'. Refute it at one input. -/
def policyCountsWrong : ChangeSpec := { name := "policyCounts", fn := fun _ => fun
  | [d1, d2] => { results := [.lit (.bool false)], args := [d1, d2] }
  | _ => none }
def PolicyCountsWrongFalsely : Prop := policyCountsRow.holds Tryd.pinned (OpenSpec.ofChange policyCountsWrong)

/- THE SECOND FORM. 'bulk': how many values and letters a reading holds, each counted each time it is reached (what is shared counts as often as it is met; a slice's spare places count too). A statement '..UptoSaid' is the law's where the arguments, and the package variables that the reading takes, are together of bulk at most 1048576: NARROWER than '..Said'. Prove '..Said' where nothing that the law and all that it calls make is longer than what came in: it says more and counts as full. Else prove '..UptoSaid'. A law counts once. -/
mutual
def uptoBulk {H : Type} : DataW H → Nat
  | .lit (.string bytes) => bytes.length + 1
  | .lit _ => 1
  | .nil => 1
  | .ptr d => uptoBulk d + 1
  | .slice elems spare => uptoBulkAll elems + uptoBulkAll spare + 1
  | .agg parts => uptoBulkAll parts + 1
  | .iface _ d => uptoBulk d + 1
  | .map entries => uptoBulkEntries entries + 1
  | .held _ => 1
def uptoBulkAll {H : Type} : List (DataW H) → Nat
  | [] => 0
  | d :: r => uptoBulk d + uptoBulkAll r
def uptoBulkEntries {H : Type} : List (Lit × DataW H) → Nat
  | [] => 0
  | x :: r => uptoBulkEntry x + uptoBulkEntries r
def uptoBulkEntry {H : Type} : Lit × DataW H → Nat
  | (.string bytes, d) => bytes.length + uptoBulk d + 1
  | (_, d) => uptoBulk d + 1
 end
def uptoSmall : (H : Type) → List (DataW H) → Bool := fun _ ds => decide (uptoBulkAll ds ≤ 1048576)
def OpenSpec.upto (s : _root_.Go.ChangeSpec) : _root_.Go.OpenSpec := { _root_.Go.OpenSpec.ofChange s with cond := some uptoSmall }

/-- 'soffitlaw17.PolicyOutcomes', WHERE WHAT IT READS IS OF BULK AT MOST 1048576: true; the input reads as it did. -/
def policyOutcomesUptoRow : OpenClaim := { program := "ytfhmjkdpohepaaadoor", sum := "c33733af60253f0163fff62434073629afe16193b84a08de10a87f5bc3dc8dbf", func := "soffit/soffitlaw17.PolicyOutcomes", spec := "policyOutcomes", unfollowed := true, recurses := true, named := ["unicode/utf8.first", "unicode/utf8.acceptRanges"], apart := false, laid := [("unicode/utf8.acceptRanges", laid_unicode_utf8_acceptRanges), ("unicode/utf8.first", laid_unicode_utf8_first)], narrowed := true }
def PolicyOutcomesUptoSaid : Prop := policyOutcomesUptoRow.holds Tryd.pinned (OpenSpec.upto policyOutcomesSpec)

/-- 'soffitlaw17.PolicyAmong', WHERE WHAT IT READS IS OF BULK AT MOST 1048576: true; the input reads as it did. -/
def policyAmongUptoRow : OpenClaim := { program := "ytfhmjkdpohepaaadoor", sum := "c33733af60253f0163fff62434073629afe16193b84a08de10a87f5bc3dc8dbf", func := "soffit/soffitlaw17.PolicyAmong", spec := "policyAmong", unfollowed := true, recurses := true, named := ["unicode/utf8.first", "unicode/utf8.acceptRanges"], apart := false, laid := [("unicode/utf8.acceptRanges", laid_unicode_utf8_acceptRanges), ("unicode/utf8.first", laid_unicode_utf8_first)], narrowed := true }
def PolicyAmongUptoSaid : Prop := policyAmongUptoRow.holds Tryd.pinned (OpenSpec.upto policyAmongSpec)

/-- 'soffitlaw17.PolicyOrder', WHERE WHAT IT READS IS OF BULK AT MOST 1048576: true; the input reads as it did. -/
def policyOrderUptoRow : OpenClaim := { program := "ytfhmjkdpohepaaadoor", sum := "c33733af60253f0163fff62434073629afe16193b84a08de10a87f5bc3dc8dbf", func := "soffit/soffitlaw17.PolicyOrder", spec := "policyOrder", unfollowed := true, recurses := true, named := ["unicode/utf8.first", "unicode/utf8.acceptRanges"], apart := false, laid := [("unicode/utf8.acceptRanges", laid_unicode_utf8_acceptRanges), ("unicode/utf8.first", laid_unicode_utf8_first)], narrowed := true }
def PolicyOrderUptoSaid : Prop := policyOrderUptoRow.holds Tryd.pinned (OpenSpec.upto policyOrderSpec)

/-- 'soffitlaw17.PolicyEnds', WHERE WHAT IT READS IS OF BULK AT MOST 1048576: true; the input reads as it did. -/
def policyEndsUptoRow : OpenClaim := { program := "ytfhmjkdpohepaaadoor", sum := "c33733af60253f0163fff62434073629afe16193b84a08de10a87f5bc3dc8dbf", func := "soffit/soffitlaw17.PolicyEnds", spec := "policyEnds", unfollowed := true, recurses := true, named := ["unicode/utf8.first", "unicode/utf8.acceptRanges"], apart := false, laid := [("unicode/utf8.acceptRanges", laid_unicode_utf8_acceptRanges), ("unicode/utf8.first", laid_unicode_utf8_first)], narrowed := true }
def PolicyEndsUptoSaid : Prop := policyEndsUptoRow.holds Tryd.pinned (OpenSpec.upto policyEndsSpec)

/-- 'soffitlaw17.PolicyFirst', WHERE WHAT IT READS IS OF BULK AT MOST 1048576: true; the input reads as it did. -/
def policyFirstUptoRow : OpenClaim := { program := "ytfhmjkdpohepaaadoor", sum := "c33733af60253f0163fff62434073629afe16193b84a08de10a87f5bc3dc8dbf", func := "soffit/soffitlaw17.PolicyFirst", spec := "policyFirst", unfollowed := true, recurses := true, named := ["unicode/utf8.first", "unicode/utf8.acceptRanges"], apart := false, laid := [("unicode/utf8.acceptRanges", laid_unicode_utf8_acceptRanges), ("unicode/utf8.first", laid_unicode_utf8_first)], narrowed := true }
def PolicyFirstUptoSaid : Prop := policyFirstUptoRow.holds Tryd.pinned (OpenSpec.upto policyFirstSpec)

/-- 'soffitlaw17.PolicyCounts', WHERE WHAT IT READS IS OF BULK AT MOST 1048576: true; the input reads as it did. -/
def policyCountsUptoRow : OpenClaim := { program := "ytfhmjkdpohepaaadoor", sum := "c33733af60253f0163fff62434073629afe16193b84a08de10a87f5bc3dc8dbf", func := "soffit/soffitlaw17.PolicyCounts", spec := "policyCounts", unfollowed := true, recurses := true, named := ["unicode/utf8.first", "unicode/utf8.acceptRanges"], apart := false, laid := [("unicode/utf8.acceptRanges", laid_unicode_utf8_acceptRanges), ("unicode/utf8.first", laid_unicode_utf8_first)], narrowed := true }
def PolicyCountsUptoSaid : Prop := policyCountsUptoRow.holds Tryd.pinned (OpenSpec.upto policyCountsSpec)

end Rows
end Go.Proofs.YtfhmjkdpohepaaaDoor
