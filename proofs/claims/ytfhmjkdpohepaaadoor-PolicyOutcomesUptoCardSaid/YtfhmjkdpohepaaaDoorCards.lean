/-
  DERIVED. GIVEN WITH THE SEED: THE CARDS: each row of YtfhmjkdpohepaaaDoorRows.lean that lists a variable, with what it lists TIED to the program's text (the seventh form; the later family's looks); each row that meets fmt, with fmt's text TOLD by the authors' own Lean function (tested against real Go, not proved from fmt's source: count such statements apart). THE CARD IS WHAT COUNTS. Prove the row's statement (the work); the ties are given (YtfhmjkdpohepaaaDoorTie.lean); close each card by the builder's one call (the guide's Derived/Test/ToyasCard.lean, 'card_holds'). Laid BY PROGRAM, IN A SANDBOX (cutbox-door.mjs). By AI agents, Wed Nov 11 2026. No macro, syntax, notation, axiom, sorry.
-/
import Derived.Test.YtfhmjkdpohepaaaDoorRows
import GoSem.ClaimSeven
namespace Go.Proofs.YtfhmjkdpohepaaaDoor
namespace Rows

/-- THE TIED CARD OF 'soffitlaw17.PolicyOutcomes'. -/
def policyOutcomesCard : Claim7 := { stood := { row := policyOutcomesRow, standIns := [], harness := (true, "9930cb624e7a1e2565fcc3e81e5a985cfd2ad9697635890368c8a843a48344ff"), looks := false }, kinds := [], alts := [], laidByText := true, laidKinds := [.data, .pinned], laidTests := true, laidLooks := .later }
def PolicyOutcomesCardSaid : Prop := Claim7.holds Tryd.pinned (.plain (OpenSpec.ofChange policyOutcomesSpec)) policyOutcomesCard

/-- THE TIED CARD OF 'soffitlaw17.PolicyAmong'. -/
def policyAmongCard : Claim7 := { stood := { row := policyAmongRow, standIns := [], harness := (true, "9930cb624e7a1e2565fcc3e81e5a985cfd2ad9697635890368c8a843a48344ff"), looks := false }, kinds := [], alts := [], laidByText := true, laidKinds := [.data, .pinned], laidTests := true, laidLooks := .later }
def PolicyAmongCardSaid : Prop := Claim7.holds Tryd.pinned (.plain (OpenSpec.ofChange policyAmongSpec)) policyAmongCard

/-- THE TIED CARD OF 'soffitlaw17.PolicyOrder'. -/
def policyOrderCard : Claim7 := { stood := { row := policyOrderRow, standIns := [], harness := (true, "9930cb624e7a1e2565fcc3e81e5a985cfd2ad9697635890368c8a843a48344ff"), looks := false }, kinds := [], alts := [], laidByText := true, laidKinds := [.data, .pinned], laidTests := true, laidLooks := .later }
def PolicyOrderCardSaid : Prop := Claim7.holds Tryd.pinned (.plain (OpenSpec.ofChange policyOrderSpec)) policyOrderCard

/-- THE TIED CARD OF 'soffitlaw17.PolicyEnds'. -/
def policyEndsCard : Claim7 := { stood := { row := policyEndsRow, standIns := [], harness := (true, "9930cb624e7a1e2565fcc3e81e5a985cfd2ad9697635890368c8a843a48344ff"), looks := false }, kinds := [], alts := [], laidByText := true, laidKinds := [.data, .pinned], laidTests := true, laidLooks := .later }
def PolicyEndsCardSaid : Prop := Claim7.holds Tryd.pinned (.plain (OpenSpec.ofChange policyEndsSpec)) policyEndsCard

/-- THE TIED CARD OF 'soffitlaw17.PolicyFirst'. -/
def policyFirstCard : Claim7 := { stood := { row := policyFirstRow, standIns := [], harness := (true, "9930cb624e7a1e2565fcc3e81e5a985cfd2ad9697635890368c8a843a48344ff"), looks := false }, kinds := [], alts := [], laidByText := true, laidKinds := [.data, .pinned], laidTests := true, laidLooks := .later }
def PolicyFirstCardSaid : Prop := Claim7.holds Tryd.pinned (.plain (OpenSpec.ofChange policyFirstSpec)) policyFirstCard

/-- THE TIED CARD OF 'soffitlaw17.PolicyCounts'. -/
def policyCountsCard : Claim7 := { stood := { row := policyCountsRow, standIns := [], harness := (true, "9930cb624e7a1e2565fcc3e81e5a985cfd2ad9697635890368c8a843a48344ff"), looks := false }, kinds := [], alts := [], laidByText := true, laidKinds := [.data, .pinned], laidTests := true, laidLooks := .later }
def PolicyCountsCardSaid : Prop := Claim7.holds Tryd.pinned (.plain (OpenSpec.ofChange policyCountsSpec)) policyCountsCard

/-- THE SECOND FORM's CARD OF 'soffitlaw17.PolicyOutcomes'. -/
def policyOutcomesUptoCard : Claim7 := { stood := { row := policyOutcomesUptoRow, standIns := [], harness := (true, "9930cb624e7a1e2565fcc3e81e5a985cfd2ad9697635890368c8a843a48344ff"), looks := false }, kinds := [], alts := [], laidByText := true, laidKinds := [.data, .pinned], laidTests := true, laidLooks := .later }
def PolicyOutcomesUptoCardSaid : Prop := Claim7.holds Tryd.pinned (.plain (OpenSpec.upto policyOutcomesSpec)) policyOutcomesUptoCard

/-- THE SECOND FORM's CARD OF 'soffitlaw17.PolicyAmong'. -/
def policyAmongUptoCard : Claim7 := { stood := { row := policyAmongUptoRow, standIns := [], harness := (true, "9930cb624e7a1e2565fcc3e81e5a985cfd2ad9697635890368c8a843a48344ff"), looks := false }, kinds := [], alts := [], laidByText := true, laidKinds := [.data, .pinned], laidTests := true, laidLooks := .later }
def PolicyAmongUptoCardSaid : Prop := Claim7.holds Tryd.pinned (.plain (OpenSpec.upto policyAmongSpec)) policyAmongUptoCard

/-- THE SECOND FORM's CARD OF 'soffitlaw17.PolicyOrder'. -/
def policyOrderUptoCard : Claim7 := { stood := { row := policyOrderUptoRow, standIns := [], harness := (true, "9930cb624e7a1e2565fcc3e81e5a985cfd2ad9697635890368c8a843a48344ff"), looks := false }, kinds := [], alts := [], laidByText := true, laidKinds := [.data, .pinned], laidTests := true, laidLooks := .later }
def PolicyOrderUptoCardSaid : Prop := Claim7.holds Tryd.pinned (.plain (OpenSpec.upto policyOrderSpec)) policyOrderUptoCard

/-- THE SECOND FORM's CARD OF 'soffitlaw17.PolicyEnds'. -/
def policyEndsUptoCard : Claim7 := { stood := { row := policyEndsUptoRow, standIns := [], harness := (true, "9930cb624e7a1e2565fcc3e81e5a985cfd2ad9697635890368c8a843a48344ff"), looks := false }, kinds := [], alts := [], laidByText := true, laidKinds := [.data, .pinned], laidTests := true, laidLooks := .later }
def PolicyEndsUptoCardSaid : Prop := Claim7.holds Tryd.pinned (.plain (OpenSpec.upto policyEndsSpec)) policyEndsUptoCard

/-- THE SECOND FORM's CARD OF 'soffitlaw17.PolicyFirst'. -/
def policyFirstUptoCard : Claim7 := { stood := { row := policyFirstUptoRow, standIns := [], harness := (true, "9930cb624e7a1e2565fcc3e81e5a985cfd2ad9697635890368c8a843a48344ff"), looks := false }, kinds := [], alts := [], laidByText := true, laidKinds := [.data, .pinned], laidTests := true, laidLooks := .later }
def PolicyFirstUptoCardSaid : Prop := Claim7.holds Tryd.pinned (.plain (OpenSpec.upto policyFirstSpec)) policyFirstUptoCard

/-- THE SECOND FORM's CARD OF 'soffitlaw17.PolicyCounts'. -/
def policyCountsUptoCard : Claim7 := { stood := { row := policyCountsUptoRow, standIns := [], harness := (true, "9930cb624e7a1e2565fcc3e81e5a985cfd2ad9697635890368c8a843a48344ff"), looks := false }, kinds := [], alts := [], laidByText := true, laidKinds := [.data, .pinned], laidTests := true, laidLooks := .later }
def PolicyCountsUptoCardSaid : Prop := Claim7.holds Tryd.pinned (.plain (OpenSpec.upto policyCountsSpec)) policyCountsUptoCard
end Rows
end Go.Proofs.YtfhmjkdpohepaaaDoor
