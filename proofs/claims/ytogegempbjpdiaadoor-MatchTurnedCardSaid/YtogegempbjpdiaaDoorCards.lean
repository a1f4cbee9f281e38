/-
  DERIVED. GIVEN WITH THE SEED: THE CARDS: each row of YtogegempbjpdiaaDoorRows.lean that lists a variable, with what it lists TIED to the program's text (the seventh form; the later family's looks); each row that meets fmt, with fmt's text TOLD by the authors' own Lean function (tested against real Go, not proved from fmt's source: count such statements apart). THE CARD IS WHAT COUNTS. Prove the row's statement (the work); the ties are given (YtogegempbjpdiaaDoorTie.lean); close each card by the builder's one call (the guide's Derived/Test/ToyasCard.lean, 'card_holds'). Laid BY PROGRAM, IN A SANDBOX (cutbox-door.mjs). By AI agents, Wed Nov 11 2026. No macro, syntax, notation, axiom, sorry.
-/
import Derived.Test.YtogegempbjpdiaaDoorRows
import GoSem.ClaimSeven
namespace Go.Proofs.YtogegempbjpdiaaDoor
namespace Rows

/-- THE TIED CARD OF 'soffitlaw12.MatchAll'. -/
def matchAllCard : Claim7 := { stood := { row := matchAllRow, standIns := [], harness := (true, "152a0f93fdf0aeff9432368e54a81d8b3c08f385bb3349d9f11f010db4632dc0"), looks := false }, kinds := [], alts := [], laidByText := true, laidKinds := [.data, .data, .pinned], laidTests := true, laidLooks := .later }
def MatchAllCardSaid : Prop := Claim7.holds Tryd.pinned (.plain (OpenSpec.ofChange matchAllSpec)) matchAllCard

/-- THE TIED CARD OF 'soffitlaw12.MatchRow'. -/
def matchRowCard : Claim7 := { stood := { row := matchRowRow, standIns := [], harness := (true, "152a0f93fdf0aeff9432368e54a81d8b3c08f385bb3349d9f11f010db4632dc0"), looks := false }, kinds := [], alts := [], laidByText := true, laidKinds := [.data, .data, .pinned], laidTests := true, laidLooks := .later }
def MatchRowCardSaid : Prop := Claim7.holds Tryd.pinned (.plain (OpenSpec.ofChange matchRowSpec)) matchRowCard

/-- THE TIED CARD OF 'soffitlaw12.MatchOne'. -/
def matchOneCard : Claim7 := { stood := { row := matchOneRow, standIns := [], harness := (true, "152a0f93fdf0aeff9432368e54a81d8b3c08f385bb3349d9f11f010db4632dc0"), looks := false }, kinds := [], alts := [], laidByText := true, laidKinds := [.data, .data, .pinned], laidTests := true, laidLooks := .later }
def MatchOneCardSaid : Prop := Claim7.holds Tryd.pinned (.plain (OpenSpec.ofChange matchOneSpec)) matchOneCard

/-- THE TIED CARD OF 'soffitlaw12.MatchTurned'. -/
def matchTurnedCard : Claim7 := { stood := { row := matchTurnedRow, standIns := [], harness := (true, "152a0f93fdf0aeff9432368e54a81d8b3c08f385bb3349d9f11f010db4632dc0"), looks := false }, kinds := [], alts := [], laidByText := true, laidKinds := [.data, .data, .pinned], laidTests := true, laidLooks := .later }
def MatchTurnedCardSaid : Prop := Claim7.holds Tryd.pinned (.plain (OpenSpec.ofChange matchTurnedSpec)) matchTurnedCard

/-- THE TIED CARD OF 'soffitlaw12.MatchBetween'. -/
def matchBetweenCard : Claim7 := { stood := { row := matchBetweenRow, standIns := [], harness := (true, "152a0f93fdf0aeff9432368e54a81d8b3c08f385bb3349d9f11f010db4632dc0"), looks := false }, kinds := [], alts := [], laidByText := true, laidKinds := [.data, .data, .pinned], laidTests := true, laidLooks := .later }
def MatchBetweenCardSaid : Prop := Claim7.holds Tryd.pinned (.plain (OpenSpec.ofChange matchBetweenSpec)) matchBetweenCard

/-- THE SECOND FORM's CARD OF 'soffitlaw12.MatchAll'. -/
def matchAllUptoCard : Claim7 := { stood := { row := matchAllUptoRow, standIns := [], harness := (true, "152a0f93fdf0aeff9432368e54a81d8b3c08f385bb3349d9f11f010db4632dc0"), looks := false }, kinds := [], alts := [], laidByText := true, laidKinds := [.data, .data, .pinned], laidTests := true, laidLooks := .later }
def MatchAllUptoCardSaid : Prop := Claim7.holds Tryd.pinned (.plain (OpenSpec.upto matchAllSpec)) matchAllUptoCard

/-- THE SECOND FORM's CARD OF 'soffitlaw12.MatchRow'. -/
def matchRowUptoCard : Claim7 := { stood := { row := matchRowUptoRow, standIns := [], harness := (true, "152a0f93fdf0aeff9432368e54a81d8b3c08f385bb3349d9f11f010db4632dc0"), looks := false }, kinds := [], alts := [], laidByText := true, laidKinds := [.data, .data, .pinned], laidTests := true, laidLooks := .later }
def MatchRowUptoCardSaid : Prop := Claim7.holds Tryd.pinned (.plain (OpenSpec.upto matchRowSpec)) matchRowUptoCard

/-- THE SECOND FORM's CARD OF 'soffitlaw12.MatchOne'. -/
def matchOneUptoCard : Claim7 := { stood := { row := matchOneUptoRow, standIns := [], harness := (true, "152a0f93fdf0aeff9432368e54a81d8b3c08f385bb3349d9f11f010db4632dc0"), looks := false }, kinds := [], alts := [], laidByText := true, laidKinds := [.data, .data, .pinned], laidTests := true, laidLooks := .later }
def MatchOneUptoCardSaid : Prop := Claim7.holds Tryd.pinned (.plain (OpenSpec.upto matchOneSpec)) matchOneUptoCard

/-- THE SECOND FORM's CARD OF 'soffitlaw12.MatchTurned'. -/
def matchTurnedUptoCard : Claim7 := { stood := { row := matchTurnedUptoRow, standIns := [], harness := (true, "152a0f93fdf0aeff9432368e54a81d8b3c08f385bb3349d9f11f010db4632dc0"), looks := false }, kinds := [], alts := [], laidByText := true, laidKinds := [.data, .data, .pinned], laidTests := true, laidLooks := .later }
def MatchTurnedUptoCardSaid : Prop := Claim7.holds Tryd.pinned (.plain (OpenSpec.upto matchTurnedSpec)) matchTurnedUptoCard

/-- THE SECOND FORM's CARD OF 'soffitlaw12.MatchBetween'. -/
def matchBetweenUptoCard : Claim7 := { stood := { row := matchBetweenUptoRow, standIns := [], harness := (true, "152a0f93fdf0aeff9432368e54a81d8b3c08f385bb3349d9f11f010db4632dc0"), looks := false }, kinds := [], alts := [], laidByText := true, laidKinds := [.data, .data, .pinned], laidTests := true, laidLooks := .later }
def MatchBetweenUptoCardSaid : Prop := Claim7.holds Tryd.pinned (.plain (OpenSpec.upto matchBetweenSpec)) matchBetweenUptoCard
end Rows
end Go.Proofs.YtogegempbjpdiaaDoor
