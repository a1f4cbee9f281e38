/-
  DERIVED. GIVEN WITH THE SEED: THE CARDS: each row of YtgbapmhdhbfhnaaDoorRows.lean that lists a variable, with what it lists TIED to the program's text (the seventh form; the later family's looks); each row that meets fmt, with fmt's text TOLD by the authors' own Lean function (tested against real Go, not proved from fmt's source: count such statements apart). THE CARD IS WHAT COUNTS. Prove the row's statement (the work); the ties are given (YtgbapmhdhbfhnaaDoorTie.lean); close each card by the builder's one call (the guide's Derived/Test/ToyasCard.lean, 'card_holds'). Laid BY PROGRAM, IN A SANDBOX (cutbox-door.mjs). By AI agents, Wed Nov 11 2026. No macro, syntax, notation, axiom, sorry.
-/
import Derived.Test.YtgbapmhdhbfhnaaDoorRows
import GoSem.ClaimSeven
namespace Go.Proofs.YtgbapmhdhbfhnaaDoor
namespace Rows

/-- THE TIED CARD OF 'soffitlaw14.WordsMakes'. -/
def wordsMakesCard : Claim7 := { stood := { row := wordsMakesRow, standIns := [], harness := (true, "a5e053374e023a9132e2d0a8dd0fa9e5d52b8b74462838b8361693626105cfa1"), looks := false }, kinds := [], alts := [], laidByText := true, laidKinds := [.data, .data, .data, .data, .pinned], laidTests := true, laidLooks := .later }
def WordsMakesCardSaid : Prop := Claim7.holds Tryd.pinned (.plain (OpenSpec.ofChange wordsMakesSpec)) wordsMakesCard

/-- THE TIED CARD OF 'soffitlaw14.WordsPicks'. -/
def wordsPicksCard : Claim7 := { stood := { row := wordsPicksRow, standIns := [], harness := (true, "a5e053374e023a9132e2d0a8dd0fa9e5d52b8b74462838b8361693626105cfa1"), looks := false }, kinds := [], alts := [], laidByText := true, laidKinds := [.data, .data, .data, .data, .pinned], laidTests := true, laidLooks := .later }
def WordsPicksCardSaid : Prop := Claim7.holds Tryd.pinned (.plain (OpenSpec.ofChange wordsPicksSpec)) wordsPicksCard

/-- THE TIED CARD OF 'soffitlaw14.WordsMeets'. -/
def wordsMeetsCard : Claim7 := { stood := { row := wordsMeetsRow, standIns := [], harness := (true, "a5e053374e023a9132e2d0a8dd0fa9e5d52b8b74462838b8361693626105cfa1"), looks := false }, kinds := [], alts := [], laidByText := true, laidKinds := [.data, .data, .data, .data, .pinned], laidTests := true, laidLooks := .later }
def WordsMeetsCardSaid : Prop := Claim7.holds Tryd.pinned (.plain (OpenSpec.ofChange wordsMeetsSpec)) wordsMeetsCard

/-- THE TIED CARD OF 'soffitlaw14.WordsTurns'. -/
def wordsTurnsCard : Claim7 := { stood := { row := wordsTurnsRow, standIns := [], harness := (true, "a5e053374e023a9132e2d0a8dd0fa9e5d52b8b74462838b8361693626105cfa1"), looks := false }, kinds := [], alts := [], laidByText := true, laidKinds := [.data, .data, .data, .data, .pinned], laidTests := true, laidLooks := .later }
def WordsTurnsCardSaid : Prop := Claim7.holds Tryd.pinned (.plain (OpenSpec.ofChange wordsTurnsSpec)) wordsTurnsCard

/-- THE TIED CARD OF 'soffitlaw14.WordsSplit'. -/
def wordsSplitCard : Claim7 := { stood := { row := wordsSplitRow, standIns := [], harness := (true, "a5e053374e023a9132e2d0a8dd0fa9e5d52b8b74462838b8361693626105cfa1"), looks := false }, kinds := [], alts := [], laidByText := true, laidKinds := [.data, .data, .data, .data, .pinned], laidTests := true, laidLooks := .later }
def WordsSplitCardSaid : Prop := Claim7.holds Tryd.pinned (.plain (OpenSpec.ofChange wordsSplitSpec)) wordsSplitCard

/-- THE SECOND FORM's CARD OF 'soffitlaw14.WordsMakes'. -/
def wordsMakesUptoCard : Claim7 := { stood := { row := wordsMakesUptoRow, standIns := [], harness := (true, "a5e053374e023a9132e2d0a8dd0fa9e5d52b8b74462838b8361693626105cfa1"), looks := false }, kinds := [], alts := [], laidByText := true, laidKinds := [.data, .data, .data, .data, .pinned], laidTests := true, laidLooks := .later }
def WordsMakesUptoCardSaid : Prop := Claim7.holds Tryd.pinned (.plain (OpenSpec.upto wordsMakesSpec)) wordsMakesUptoCard

/-- THE SECOND FORM's CARD OF 'soffitlaw14.WordsPicks'. -/
def wordsPicksUptoCard : Claim7 := { stood := { row := wordsPicksUptoRow, standIns := [], harness := (true, "a5e053374e023a9132e2d0a8dd0fa9e5d52b8b74462838b8361693626105cfa1"), looks := false }, kinds := [], alts := [], laidByText := true, laidKinds := [.data, .data, .data, .data, .pinned], laidTests := true, laidLooks := .later }
def WordsPicksUptoCardSaid : Prop := Claim7.holds Tryd.pinned (.plain (OpenSpec.upto wordsPicksSpec)) wordsPicksUptoCard

/-- THE SECOND FORM's CARD OF 'soffitlaw14.WordsMeets'. -/
def wordsMeetsUptoCard : Claim7 := { stood := { row := wordsMeetsUptoRow, standIns := [], harness := (true, "a5e053374e023a9132e2d0a8dd0fa9e5d52b8b74462838b8361693626105cfa1"), looks := false }, kinds := [], alts := [], laidByText := true, laidKinds := [.data, .data, .data, .data, .pinned], laidTests := true, laidLooks := .later }
def WordsMeetsUptoCardSaid : Prop := Claim7.holds Tryd.pinned (.plain (OpenSpec.upto wordsMeetsSpec)) wordsMeetsUptoCard

/-- THE SECOND FORM's CARD OF 'soffitlaw14.WordsTurns'. -/
def wordsTurnsUptoCard : Claim7 := { stood := { row := wordsTurnsUptoRow, standIns := [], harness := (true, "a5e053374e023a9132e2d0a8dd0fa9e5d52b8b74462838b8361693626105cfa1"), looks := false }, kinds := [], alts := [], laidByText := true, laidKinds := [.data, .data, .data, .data, .pinned], laidTests := true, laidLooks := .later }
def WordsTurnsUptoCardSaid : Prop := Claim7.holds Tryd.pinned (.plain (OpenSpec.upto wordsTurnsSpec)) wordsTurnsUptoCard

/-- THE SECOND FORM's CARD OF 'soffitlaw14.WordsSplit'. -/
def wordsSplitUptoCard : Claim7 := { stood := { row := wordsSplitUptoRow, standIns := [], harness := (true, "a5e053374e023a9132e2d0a8dd0fa9e5d52b8b74462838b8361693626105cfa1"), looks := false }, kinds := [], alts := [], laidByText := true, laidKinds := [.data, .data, .data, .data, .pinned], laidTests := true, laidLooks := .later }
def WordsSplitUptoCardSaid : Prop := Claim7.holds Tryd.pinned (.plain (OpenSpec.upto wordsSplitSpec)) wordsSplitUptoCard
end Rows
end Go.Proofs.YtgbapmhdhbfhnaaDoor
