/-
  No cell of these rows narrows 'for every input' (looked for: loops, veiled, ifaces, maps, wideKeys, modest, calm, conditions, laid).
  DERIVED. THE GIVEN ROWS OF THIS SEAT. 5 by the template 'for every input the law returns true; each argument reads behind the call as it read before'; 0 by the template 'total and deterministic' (their statements: YthdbbefiebolbaaTotals.lean).
  GIVEN WITH THE SEED: the statements are not yours to turn. If you find one false, say at which input.
  Laid BY PROGRAM, IN A SANDBOX (cutbox-rows.mjs): the forced cells as the released guide's own fill.sh prints them over the translation 2b95698a95c0ee79… (all of the seat's roots in one cut). By AI agents, Wed Nov 11 2026. No macro, syntax, notation, axiom, sorry.
-/
import Derived.Test.YthdbbefiebolbaaChecked
import GoSem.Claim
import GoSem.ClaimJoined
import GoSem.ClaimMapViews
import Derived.JoinedTies
import Derived.KernelRfl
namespace Go.Proofs.Ythdbbefiebolbaa
/- THE CELL 'sum', in the pinned program and in every row, IS THE sha256 OF THE DUMP (.gsa) THAT YthdbbefiebolbaaProg.lean LOADS. Nothing in Lean hashes anything: it is a label: what it is worth is what the hold of that sum in a sandbox is worth. -/
noncomputable def Try.pinned : Pinned := { name := "ythdbbefiebolbaa", sum := "2b95698a95c0ee795e252417ed62fea5b18051fdc06559363b6b7de63c43c2d2", checked := Try.checked }
namespace Rows
def none {H : Type} : Left H := { results := [], args := [] }

/-- 'soffitlaw13.SpansJoins': WHATEVER THE INPUT: true; the input reads as it did. -/
def spansJoinsSpec : ChangeSpec := { name := "spansJoins", fn := fun _ => fun
  | [d1, d2] => { results := [.lit (.bool true)], args := [d1, d2] }
  | _ => none }
def spansJoinsRow : OpenClaim := { program := "ythdbbefiebolbaa", sum := "2b95698a95c0ee795e252417ed62fea5b18051fdc06559363b6b7de63c43c2d2", func := "soffit/soffitlaw13.SpansJoins", spec := "spansJoins", unfollowed := true, recurses := true, apart := false }
def SpansJoinsSaid : Prop := spansJoinsRow.holds Try.pinned (OpenSpec.ofChange spansJoinsSpec)

/-- ITS FALSE NEIGHBOUR: 'it returns false'. Refute it at one input. -/
def spansJoinsWrong : ChangeSpec := { name := "spansJoins", fn := fun _ => fun
  | [d1, d2] => { results := [.lit (.bool false)], args := [d1, d2] }
  | _ => none }
def SpansJoinsWrongFalsely : Prop := spansJoinsRow.holds Try.pinned (OpenSpec.ofChange spansJoinsWrong)

/-- 'soffitlaw13.SpansNear': WHATEVER THE INPUT: true; the input reads as it did. -/
def spansNearSpec : ChangeSpec := { name := "spansNear", fn := fun _ => fun
  | [d1, d2] => { results := [.lit (.bool true)], args := [d1, d2] }
  | _ => none }
def spansNearRow : OpenClaim := { program := "ythdbbefiebolbaa", sum := "2b95698a95c0ee795e252417ed62fea5b18051fdc06559363b6b7de63c43c2d2", func := "soffit/soffitlaw13.SpansNear", spec := "spansNear", unfollowed := true, recurses := true, apart := false }
def SpansNearSaid : Prop := spansNearRow.holds Try.pinned (OpenSpec.ofChange spansNearSpec)

/-- ITS FALSE NEIGHBOUR: 'it returns false'. Refute it at one input. -/
def spansNearWrong : ChangeSpec := { name := "spansNear", fn := fun _ => fun
  | [d1, d2] => { results := [.lit (.bool false)], args := [d1, d2] }
  | _ => none }
def SpansNearWrongFalsely : Prop := spansNearRow.holds Try.pinned (OpenSpec.ofChange spansNearWrong)

/-- 'soffitlaw13.SpansMeets': WHATEVER THE INPUT: true; the input reads as it did. -/
def spansMeetsSpec : ChangeSpec := { name := "spansMeets", fn := fun _ => fun
  | [d1, d2, d3] => { results := [.lit (.bool true)], args := [d1, d2, d3] }
  | _ => none }
def spansMeetsRow : OpenClaim := { program := "ythdbbefiebolbaa", sum := "2b95698a95c0ee795e252417ed62fea5b18051fdc06559363b6b7de63c43c2d2", func := "soffit/soffitlaw13.SpansMeets", spec := "spansMeets", unfollowed := true, recurses := true, apart := false }
def SpansMeetsSaid : Prop := spansMeetsRow.holds Try.pinned (OpenSpec.ofChange spansMeetsSpec)

/-- ITS FALSE NEIGHBOUR: 'it returns false'. Refute it at one input. -/
def spansMeetsWrong : ChangeSpec := { name := "spansMeets", fn := fun _ => fun
  | [d1, d2, d3] => { results := [.lit (.bool false)], args := [d1, d2, d3] }
  | _ => none }
def SpansMeetsWrongFalsely : Prop := spansMeetsRow.holds Try.pinned (OpenSpec.ofChange spansMeetsWrong)

/-- 'soffitlaw13.SpansWithout': WHATEVER THE INPUT: true; the input reads as it did. -/
def spansWithoutSpec : ChangeSpec := { name := "spansWithout", fn := fun _ => fun
  | [d1, d2, d3] => { results := [.lit (.bool true)], args := [d1, d2, d3] }
  | _ => none }
def spansWithoutRow : OpenClaim := { program := "ythdbbefiebolbaa", sum := "2b95698a95c0ee795e252417ed62fea5b18051fdc06559363b6b7de63c43c2d2", func := "soffit/soffitlaw13.SpansWithout", spec := "spansWithout", unfollowed := true, recurses := true, apart := false }
def SpansWithoutSaid : Prop := spansWithoutRow.holds Try.pinned (OpenSpec.ofChange spansWithoutSpec)

/-- ITS FALSE NEIGHBOUR: 'it returns false'. Refute it at one input. -/
def spansWithoutWrong : ChangeSpec := { name := "spansWithout", fn := fun _ => fun
  | [d1, d2, d3] => { results := [.lit (.bool false)], args := [d1, d2, d3] }
  | _ => none }
def SpansWithoutWrongFalsely : Prop := spansWithoutRow.holds Try.pinned (OpenSpec.ofChange spansWithoutWrong)

/-- 'soffitlaw13.SpansParts': WHATEVER THE INPUT: true; the input reads as it did. -/
def spansPartsSpec : ChangeSpec := { name := "spansParts", fn := fun _ => fun
  | [d1, d2] => { results := [.lit (.bool true)], args := [d1, d2] }
  | _ => none }
def spansPartsRow : OpenClaim := { program := "ythdbbefiebolbaa", sum := "2b95698a95c0ee795e252417ed62fea5b18051fdc06559363b6b7de63c43c2d2", func := "soffit/soffitlaw13.SpansParts", spec := "spansParts", unfollowed := true, recurses := true, apart := false }
def SpansPartsSaid : Prop := spansPartsRow.holds Try.pinned (OpenSpec.ofChange spansPartsSpec)

/-- ITS FALSE NEIGHBOUR: 'it returns false'. Refute it at one input. -/
def spansPartsWrong : ChangeSpec := { name := "spansParts", fn := fun _ => fun
  | [d1, d2] => { results := [.lit (.bool false)], args := [d1, d2] }
  | _ => none }
def SpansPartsWrongFalsely : Prop := spansPartsRow.holds Try.pinned (OpenSpec.ofChange spansPartsWrong)

/- THE SECOND FORM. 'bulk': how many values and letters a reading holds, each counted each time it is reached (what is shared counts as often as it is met; a slice's spare places count too). A statement '..UptoSaid' is the law's where the arguments, and the package variables that the reading takes, are together of bulk at most 1048576: NARROWER than '..Said'. Prove '..Said' where nothing that the law and all that it calls make is longer than what came in: it says more and counts as full. Else prove '..UptoSaid'. A law counts once. -/
mutual
def uptoBulk {H : Type} : DataW H → Nat
  | .lit (.string bytes) => bytes.length + 1
  | .lit _ => 1
  | .nil => 1
  | .ptr d => uptoBulk d + 1
  | .slice elems spare => uptoBulkAll elems + uptoBulkAll spare + 1
  | .agg parts => uptoBulkAll parts + 1
  | .iface _ d => uptoBulk d + 1
  | .map entries => uptoBulkEntries entries + 1
  | .held _ => 1
def uptoBulkAll {H : Type} : List (DataW H) → Nat
  | [] => 0
  | d :: r => uptoBulk d + uptoBulkAll r
def uptoBulkEntries {H : Type} : List (Lit × DataW H) → Nat
  | [] => 0
  | x :: r => uptoBulkEntry x + uptoBulkEntries r
def uptoBulkEntry {H : Type} : Lit × DataW H → Nat
  | (.string bytes, d) => bytes.length + uptoBulk d + 1
  | (_, d) => uptoBulk d + 1
 end
def uptoSmall : (H : Type) → List (DataW H) → Bool := fun _ ds => decide (uptoBulkAll ds ≤ 1048576)
def OpenSpec.upto (s : _root_.Go.ChangeSpec) : _root_.Go.OpenSpec := { _root_.Go.OpenSpec.ofChange s with cond := some uptoSmall }

/-- 'soffitlaw13.SpansJoins', WHERE WHAT IT READS IS OF BULK AT MOST 1048576: true; the input reads as it did. -/
def spansJoinsUptoRow : OpenClaim := { program := "ythdbbefiebolbaa", sum := "2b95698a95c0ee795e252417ed62fea5b18051fdc06559363b6b7de63c43c2d2", func := "soffit/soffitlaw13.SpansJoins", spec := "spansJoins", unfollowed := true, recurses := true, apart := false, narrowed := true }
def SpansJoinsUptoSaid : Prop := spansJoinsUptoRow.holds Try.pinned (OpenSpec.upto spansJoinsSpec)

/-- 'soffitlaw13.SpansNear', WHERE WHAT IT READS IS OF BULK AT MOST 1048576: true; the input reads as it did. -/
def spansNearUptoRow : OpenClaim := { program := "ythdbbefiebolbaa", sum := "2b95698a95c0ee795e252417ed62fea5b18051fdc06559363b6b7de63c43c2d2", func := "soffit/soffitlaw13.SpansNear", spec := "spansNear", unfollowed := true, recurses := true, apart := false, narrowed := true }
def SpansNearUptoSaid : Prop := spansNearUptoRow.holds Try.pinned (OpenSpec.upto spansNearSpec)

/-- 'soffitlaw13.SpansMeets', WHERE WHAT IT READS IS OF BULK AT MOST 1048576: true; the input reads as it did. -/
def spansMeetsUptoRow : OpenClaim := { program := "ythdbbefiebolbaa", sum := "2b95698a95c0ee795e252417ed62fea5b18051fdc06559363b6b7de63c43c2d2", func := "soffit/soffitlaw13.SpansMeets", spec := "spansMeets", unfollowed := true, recurses := true, apart := false, narrowed := true }
def SpansMeetsUptoSaid : Prop := spansMeetsUptoRow.holds Try.pinned (OpenSpec.upto spansMeetsSpec)

/-- 'soffitlaw13.SpansWithout', WHERE WHAT IT READS IS OF BULK AT MOST 1048576: true; the input reads as it did. -/
def spansWithoutUptoRow : OpenClaim := { program := "ythdbbefiebolbaa", sum := "2b95698a95c0ee795e252417ed62fea5b18051fdc06559363b6b7de63c43c2d2", func := "soffit/soffitlaw13.SpansWithout", spec := "spansWithout", unfollowed := true, recurses := true, apart := false, narrowed := true }
def SpansWithoutUptoSaid : Prop := spansWithoutUptoRow.holds Try.pinned (OpenSpec.upto spansWithoutSpec)

/-- 'soffitlaw13.SpansParts', WHERE WHAT IT READS IS OF BULK AT MOST 1048576: true; the input reads as it did. -/
def spansPartsUptoRow : OpenClaim := { program := "ythdbbefiebolbaa", sum := "2b95698a95c0ee795e252417ed62fea5b18051fdc06559363b6b7de63c43c2d2", func := "soffit/soffitlaw13.SpansParts", spec := "spansParts", unfollowed := true, recurses := true, apart := false, narrowed := true }
def SpansPartsUptoSaid : Prop := spansPartsUptoRow.holds Try.pinned (OpenSpec.upto spansPartsSpec)

end Rows
end Go.Proofs.Ythdbbefiebolbaa
