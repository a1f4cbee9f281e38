/-
  DERIVED. GIVEN WITH THE SEED: THE CARDS: each row of YtankkadnhdfpfaaGreatDoorRows.lean that lists a variable, with what it lists TIED to the program's text (the seventh form; the later family's looks); each row that meets fmt, with fmt's text TOLD by the authors' own Lean function (tested against real Go, not proved from fmt's source: count such statements apart). THE CARD IS WHAT COUNTS. Prove the row's statement (the work); the ties are given (YtankkadnhdfpfaaGreatDoorTie.lean); close each card by the builder's one call (the guide's Derived/Test/ToyasCard.lean, 'card_holds'). Laid BY PROGRAM, IN A SANDBOX (cutbox-door.mjs). By AI agents, Wed Nov 11 2026. No macro, syntax, notation, axiom, sorry.
-/
import Derived.Test.YtankkadnhdfpfaaGreatDoorRows
import GoSem.ClaimSeven
namespace Go.Proofs.YtankkadnhdfpfaaGreatDoor
namespace Rows

/-- THE TIED CARD OF 'soffitlaw15.SetsSplit'. -/
def setsSplitCard : Claim7 := { stood := { row := setsSplitRow, standIns := [], harness := (true, "810d7139116acd576e585b21c23295198c0c7b43842a4176fdd1f9842f1801af"), looks := false }, kinds := [], alts := [], laidByText := true, laidKinds := [.data, .data, .data, .data, .data, .pinned], laidTests := true, laidLooks := .later }
def SetsSplitCardSaid : Prop := Claim7.holds Tryz.pinned (.plain (OpenSpec.ofChange setsSplitSpec)) setsSplitCard

/-- THE TIED CARD OF 'soffitlaw16.BoxesPick'. -/
def boxesPickCard : Claim7 := { stood := { row := boxesPickRow, standIns := [], harness := (true, "810d7139116acd576e585b21c23295198c0c7b43842a4176fdd1f9842f1801af"), looks := false }, kinds := [], alts := [], laidByText := true, laidKinds := [.data, .data, .data, .data, .data, .pinned], laidTests := true, laidLooks := .later }
def BoxesPickCardSaid : Prop := Claim7.holds Tryz.pinned (.plain (OpenSpec.ofChange boxesPickSpec)) boxesPickCard

/-- THE TIED CARD OF 'soffitlaw16.BoxesFull'. -/
def boxesFullCard : Claim7 := { stood := { row := boxesFullRow, standIns := [], harness := (true, "810d7139116acd576e585b21c23295198c0c7b43842a4176fdd1f9842f1801af"), looks := false }, kinds := [], alts := [], laidByText := true, laidKinds := [.data, .data, .pinned], laidTests := true, laidLooks := .later }
def BoxesFullCardSaid : Prop := Claim7.holds Tryz.pinned (.plain (OpenSpec.ofChange boxesFullSpec)) boxesFullCard

/-- THE TIED CARD OF 'soffitlaw16.BoxesJoin'. -/
def boxesJoinCard : Claim7 := { stood := { row := boxesJoinRow, standIns := [], harness := (true, "810d7139116acd576e585b21c23295198c0c7b43842a4176fdd1f9842f1801af"), looks := false }, kinds := [], alts := [], laidByText := true, laidKinds := [.data, .data, .pinned], laidTests := true, laidLooks := .later }
def BoxesJoinCardSaid : Prop := Claim7.holds Tryz.pinned (.plain (OpenSpec.ofChange boxesJoinSpec)) boxesJoinCard

/-- THE TIED CARD OF 'soffitlaw16.BoxesLaws'. -/
def boxesLawsCard : Claim7 := { stood := { row := boxesLawsRow, standIns := [], harness := (true, "810d7139116acd576e585b21c23295198c0c7b43842a4176fdd1f9842f1801af"), looks := false }, kinds := [], alts := [], laidByText := true, laidKinds := [.data, .data, .pinned], laidTests := true, laidLooks := .later }
def BoxesLawsCardSaid : Prop := Claim7.holds Tryz.pinned (.plain (OpenSpec.ofChange boxesLawsSpec)) boxesLawsCard

/-- THE TIED CARD OF 'soffitlaw15.SetsTypes'. -/
def setsTypesCard : Claim7 := { stood := { row := setsTypesRow, standIns := [], harness := (true, "810d7139116acd576e585b21c23295198c0c7b43842a4176fdd1f9842f1801af"), looks := false }, kinds := [], alts := [], laidByText := true, laidKinds := [.data, .data, .data, .data, .data, .pinned], laidTests := true, laidLooks := .later }
def SetsTypesCardSaid : Prop := Claim7.holds Tryz.pinned (.plain (OpenSpec.ofChange setsTypesSpec)) setsTypesCard

/-- THE TIED CARD OF 'soffitlaw15.SetsOf'. -/
def setsOfCard : Claim7 := { stood := { row := setsOfRow, standIns := [], harness := (true, "810d7139116acd576e585b21c23295198c0c7b43842a4176fdd1f9842f1801af"), looks := false }, kinds := [], alts := [], laidByText := true, laidKinds := [.data, .data, .data, .data, .data, .pinned], laidTests := true, laidLooks := .later }
def SetsOfCardSaid : Prop := Claim7.holds Tryz.pinned (.plain (OpenSpec.ofChange setsOfSpec)) setsOfCard

/-- THE TIED CARD OF 'soffitlaw15.SetsOne'. -/
def setsOneCard : Claim7 := { stood := { row := setsOneRow, standIns := [], harness := (true, "810d7139116acd576e585b21c23295198c0c7b43842a4176fdd1f9842f1801af"), looks := false }, kinds := [], alts := [], laidByText := true, laidKinds := [.data, .data, .data, .data, .data, .pinned], laidTests := true, laidLooks := .later }
def SetsOneCardSaid : Prop := Claim7.holds Tryz.pinned (.plain (OpenSpec.ofChange setsOneSpec)) setsOneCard

/-- THE TIED CARD OF 'soffitlaw15.SetsPicks'. -/
def setsPicksCard : Claim7 := { stood := { row := setsPicksRow, standIns := [], harness := (true, "810d7139116acd576e585b21c23295198c0c7b43842a4176fdd1f9842f1801af"), looks := false }, kinds := [], alts := [], laidByText := true, laidKinds := [.data, .data, .data, .data, .data, .pinned], laidTests := true, laidLooks := .later }
def SetsPicksCardSaid : Prop := Claim7.holds Tryz.pinned (.plain (OpenSpec.ofChange setsPicksSpec)) setsPicksCard

/-- THE TIED CARD OF 'soffitlaw15.SetsOther'. -/
def setsOtherCard : Claim7 := { stood := { row := setsOtherRow, standIns := [], harness := (true, "810d7139116acd576e585b21c23295198c0c7b43842a4176fdd1f9842f1801af"), looks := false }, kinds := [], alts := [], laidByText := true, laidKinds := [.data, .data, .data, .data, .data, .pinned], laidTests := true, laidLooks := .later }
def SetsOtherCardSaid : Prop := Claim7.holds Tryz.pinned (.plain (OpenSpec.ofChange setsOtherSpec)) setsOtherCard

/-- THE SECOND FORM's CARD OF 'soffitlaw15.SetsSplit'. -/
def setsSplitUptoCard : Claim7 := { stood := { row := setsSplitUptoRow, standIns := [], harness := (true, "810d7139116acd576e585b21c23295198c0c7b43842a4176fdd1f9842f1801af"), looks := false }, kinds := [], alts := [], laidByText := true, laidKinds := [.data, .data, .data, .data, .data, .pinned], laidTests := true, laidLooks := .later }
def SetsSplitUptoCardSaid : Prop := Claim7.holds Tryz.pinned (.plain (OpenSpec.upto setsSplitSpec)) setsSplitUptoCard

/-- THE SECOND FORM's CARD OF 'soffitlaw16.BoxesPick'. -/
def boxesPickUptoCard : Claim7 := { stood := { row := boxesPickUptoRow, standIns := [], harness := (true, "810d7139116acd576e585b21c23295198c0c7b43842a4176fdd1f9842f1801af"), looks := false }, kinds := [], alts := [], laidByText := true, laidKinds := [.data, .data, .data, .data, .data, .pinned], laidTests := true, laidLooks := .later }
def BoxesPickUptoCardSaid : Prop := Claim7.holds Tryz.pinned (.plain (OpenSpec.upto boxesPickSpec)) boxesPickUptoCard

/-- THE SECOND FORM's CARD OF 'soffitlaw16.BoxesFull'. -/
def boxesFullUptoCard : Claim7 := { stood := { row := boxesFullUptoRow, standIns := [], harness := (true, "810d7139116acd576e585b21c23295198c0c7b43842a4176fdd1f9842f1801af"), looks := false }, kinds := [], alts := [], laidByText := true, laidKinds := [.data, .data, .pinned], laidTests := true, laidLooks := .later }
def BoxesFullUptoCardSaid : Prop := Claim7.holds Tryz.pinned (.plain (OpenSpec.upto boxesFullSpec)) boxesFullUptoCard

/-- THE SECOND FORM's CARD OF 'soffitlaw16.BoxesJoin'. -/
def boxesJoinUptoCard : Claim7 := { stood := { row := boxesJoinUptoRow, standIns := [], harness := (true, "810d7139116acd576e585b21c23295198c0c7b43842a4176fdd1f9842f1801af"), looks := false }, kinds := [], alts := [], laidByText := true, laidKinds := [.data, .data, .pinned], laidTests := true, laidLooks := .later }
def BoxesJoinUptoCardSaid : Prop := Claim7.holds Tryz.pinned (.plain (OpenSpec.upto boxesJoinSpec)) boxesJoinUptoCard

/-- THE SECOND FORM's CARD OF 'soffitlaw16.BoxesLaws'. -/
def boxesLawsUptoCard : Claim7 := { stood := { row := boxesLawsUptoRow, standIns := [], harness := (true, "810d7139116acd576e585b21c23295198c0c7b43842a4176fdd1f9842f1801af"), looks := false }, kinds := [], alts := [], laidByText := true, laidKinds := [.data, .data, .pinned], laidTests := true, laidLooks := .later }
def BoxesLawsUptoCardSaid : Prop := Claim7.holds Tryz.pinned (.plain (OpenSpec.upto boxesLawsSpec)) boxesLawsUptoCard

/-- THE SECOND FORM's CARD OF 'soffitlaw15.SetsTypes'. -/
def setsTypesUptoCard : Claim7 := { stood := { row := setsTypesUptoRow, standIns := [], harness := (true, "810d7139116acd576e585b21c23295198c0c7b43842a4176fdd1f9842f1801af"), looks := false }, kinds := [], alts := [], laidByText := true, laidKinds := [.data, .data, .data, .data, .data, .pinned], laidTests := true, laidLooks := .later }
def SetsTypesUptoCardSaid : Prop := Claim7.holds Tryz.pinned (.plain (OpenSpec.upto setsTypesSpec)) setsTypesUptoCard

/-- THE SECOND FORM's CARD OF 'soffitlaw15.SetsOf'. -/
def setsOfUptoCard : Claim7 := { stood := { row := setsOfUptoRow, standIns := [], harness := (true, "810d7139116acd576e585b21c23295198c0c7b43842a4176fdd1f9842f1801af"), looks := false }, kinds := [], alts := [], laidByText := true, laidKinds := [.data, .data, .data, .data, .data, .pinned], laidTests := true, laidLooks := .later }
def SetsOfUptoCardSaid : Prop := Claim7.holds Tryz.pinned (.plain (OpenSpec.upto setsOfSpec)) setsOfUptoCard

/-- THE SECOND FORM's CARD OF 'soffitlaw15.SetsOne'. -/
def setsOneUptoCard : Claim7 := { stood := { row := setsOneUptoRow, standIns := [], harness := (true, "810d7139116acd576e585b21c23295198c0c7b43842a4176fdd1f9842f1801af"), looks := false }, kinds := [], alts := [], laidByText := true, laidKinds := [.data, .data, .data, .data, .data, .pinned], laidTests := true, laidLooks := .later }
def SetsOneUptoCardSaid : Prop := Claim7.holds Tryz.pinned (.plain (OpenSpec.upto setsOneSpec)) setsOneUptoCard

/-- THE SECOND FORM's CARD OF 'soffitlaw15.SetsPicks'. -/
def setsPicksUptoCard : Claim7 := { stood := { row := setsPicksUptoRow, standIns := [], harness := (true, "810d7139116acd576e585b21c23295198c0c7b43842a4176fdd1f9842f1801af"), looks := false }, kinds := [], alts := [], laidByText := true, laidKinds := [.data, .data, .data, .data, .data, .pinned], laidTests := true, laidLooks := .later }
def SetsPicksUptoCardSaid : Prop := Claim7.holds Tryz.pinned (.plain (OpenSpec.upto setsPicksSpec)) setsPicksUptoCard

/-- THE SECOND FORM's CARD OF 'soffitlaw15.SetsOther'. -/
def setsOtherUptoCard : Claim7 := { stood := { row := setsOtherUptoRow, standIns := [], harness := (true, "810d7139116acd576e585b21c23295198c0c7b43842a4176fdd1f9842f1801af"), looks := false }, kinds := [], alts := [], laidByText := true, laidKinds := [.data, .data, .data, .data, .data, .pinned], laidTests := true, laidLooks := .later }
def SetsOtherUptoCardSaid : Prop := Claim7.holds Tryz.pinned (.plain (OpenSpec.upto setsOtherSpec)) setsOtherUptoCard
end Rows
end Go.Proofs.YtankkadnhdfpfaaGreatDoor
