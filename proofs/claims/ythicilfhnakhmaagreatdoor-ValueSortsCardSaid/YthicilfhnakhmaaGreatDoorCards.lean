/-
  DERIVED. GIVEN WITH THE SEED: THE CARDS: each row of YthicilfhnakhmaaGreatDoorRows.lean that lists a variable, with what it lists TIED to the program's text (the seventh form; the later family's looks); each row that meets fmt, with fmt's text TOLD by the authors' own Lean function (tested against real Go, not proved from fmt's source: count such statements apart). THE CARD IS WHAT COUNTS. Prove the row's statement (the work); the ties are given (YthicilfhnakhmaaGreatDoorTie.lean); close each card by the builder's one call (the guide's Derived/Test/ToyasCard.lean, 'card_holds'). Laid BY PROGRAM, IN A SANDBOX (cutbox-door.mjs). By AI agents, Wed Nov 11 2026. No macro, syntax, notation, axiom, sorry.
-/
import Derived.Test.YthicilfhnakhmaaGreatDoorRows
import GoSem.ClaimSeven
namespace Go.Proofs.YthicilfhnakhmaaGreatDoor
namespace Rows

/-- THE TIED CARD OF 'soffitlaw04.ValueCompares'. -/
def valueComparesCard : Claim7 := { stood := { row := valueComparesRow, standIns := [], harness := (true, "e345bfab55467947312e00163291536d7569b6ba1e9b28290e440d1d42a9a64d"), looks := true }, kinds := [], alts := [], laidByText := true, laidKinds := [.data, .data, .data, .data, .pinned], laidTests := true, laidLooks := .later }
def ValueComparesCardSaid : Prop := Claim7.holds Tryz.pinned (.plain (OpenSpec.ofChange valueComparesSpec)) valueComparesCard

/-- THE TIED CARD OF 'soffitlaw04.ValueTexts'. -/
def valueTextsCard : Claim7 := { stood := { row := valueTextsRow, standIns := [], harness := (true, "e345bfab55467947312e00163291536d7569b6ba1e9b28290e440d1d42a9a64d"), looks := true }, kinds := [], alts := [], laidByText := true, laidKinds := [.data, .data, .data, .data, .pinned], laidTests := true, laidLooks := .later }
def ValueTextsCardSaid : Prop := Claim7.holds Tryz.pinned (.plain (OpenSpec.ofChange valueTextsSpec)) valueTextsCard

/-- THE TIED CARD OF 'soffitlaw04.ValueApart'. -/
def valueApartCard : Claim7 := { stood := { row := valueApartRow, standIns := [], harness := (true, "e345bfab55467947312e00163291536d7569b6ba1e9b28290e440d1d42a9a64d"), looks := true }, kinds := [], alts := [], laidByText := true, laidKinds := [.data, .data, .data, .data, .pinned], laidTests := true, laidLooks := .later }
def ValueApartCardSaid : Prop := Claim7.holds Tryz.pinned (.plain (OpenSpec.ofChange valueApartSpec)) valueApartCard

/-- THE TIED CARD OF 'soffitlaw04.ValueSounds'. -/
def valueSoundsCard : Claim7 := { stood := { row := valueSoundsRow, standIns := [], harness := (true, "e345bfab55467947312e00163291536d7569b6ba1e9b28290e440d1d42a9a64d"), looks := true }, kinds := [], alts := [], laidByText := true, laidKinds := [.data, .data, .data, .data, .pinned], laidTests := true, laidLooks := .later }
def ValueSoundsCardSaid : Prop := Claim7.holds Tryz.pinned (.plain (OpenSpec.ofChange valueSoundsSpec)) valueSoundsCard

/-- THE TIED CARD OF 'soffitlaw04.ValueSorts'. -/
def valueSortsCard : Claim7 := { stood := { row := valueSortsRow, standIns := [], harness := (true, "e345bfab55467947312e00163291536d7569b6ba1e9b28290e440d1d42a9a64d"), looks := true }, kinds := [], alts := [], laidByText := true, laidKinds := [.data, .data, .data, .data, .pinned], laidTests := true, laidLooks := .later }
def ValueSortsCardSaid : Prop := Claim7.holds Tryz.pinned (.plain (OpenSpec.ofChange valueSortsSpec)) valueSortsCard

/-- THE SECOND FORM's CARD OF 'soffitlaw04.ValueCompares'. -/
def valueComparesUptoCard : Claim7 := { stood := { row := valueComparesUptoRow, standIns := [], harness := (true, "e345bfab55467947312e00163291536d7569b6ba1e9b28290e440d1d42a9a64d"), looks := true }, kinds := [], alts := [], laidByText := true, laidKinds := [.data, .data, .data, .data, .pinned], laidTests := true, laidLooks := .later }
def ValueComparesUptoCardSaid : Prop := Claim7.holds Tryz.pinned (.plain (OpenSpec.upto valueComparesSpec)) valueComparesUptoCard

/-- THE SECOND FORM's CARD OF 'soffitlaw04.ValueTexts'. -/
def valueTextsUptoCard : Claim7 := { stood := { row := valueTextsUptoRow, standIns := [], harness := (true, "e345bfab55467947312e00163291536d7569b6ba1e9b28290e440d1d42a9a64d"), looks := true }, kinds := [], alts := [], laidByText := true, laidKinds := [.data, .data, .data, .data, .pinned], laidTests := true, laidLooks := .later }
def ValueTextsUptoCardSaid : Prop := Claim7.holds Tryz.pinned (.plain (OpenSpec.upto valueTextsSpec)) valueTextsUptoCard

/-- THE SECOND FORM's CARD OF 'soffitlaw04.ValueApart'. -/
def valueApartUptoCard : Claim7 := { stood := { row := valueApartUptoRow, standIns := [], harness := (true, "e345bfab55467947312e00163291536d7569b6ba1e9b28290e440d1d42a9a64d"), looks := true }, kinds := [], alts := [], laidByText := true, laidKinds := [.data, .data, .data, .data, .pinned], laidTests := true, laidLooks := .later }
def ValueApartUptoCardSaid : Prop := Claim7.holds Tryz.pinned (.plain (OpenSpec.upto valueApartSpec)) valueApartUptoCard

/-- THE SECOND FORM's CARD OF 'soffitlaw04.ValueSounds'. -/
def valueSoundsUptoCard : Claim7 := { stood := { row := valueSoundsUptoRow, standIns := [], harness := (true, "e345bfab55467947312e00163291536d7569b6ba1e9b28290e440d1d42a9a64d"), looks := true }, kinds := [], alts := [], laidByText := true, laidKinds := [.data, .data, .data, .data, .pinned], laidTests := true, laidLooks := .later }
def ValueSoundsUptoCardSaid : Prop := Claim7.holds Tryz.pinned (.plain (OpenSpec.upto valueSoundsSpec)) valueSoundsUptoCard

/-- THE SECOND FORM's CARD OF 'soffitlaw04.ValueSorts'. -/
def valueSortsUptoCard : Claim7 := { stood := { row := valueSortsUptoRow, standIns := [], harness := (true, "e345bfab55467947312e00163291536d7569b6ba1e9b28290e440d1d42a9a64d"), looks := true }, kinds := [], alts := [], laidByText := true, laidKinds := [.data, .data, .data, .data, .pinned], laidTests := true, laidLooks := .later }
def ValueSortsUptoCardSaid : Prop := Claim7.holds Tryz.pinned (.plain (OpenSpec.upto valueSortsSpec)) valueSortsUptoCard
end Rows
end Go.Proofs.YthicilfhnakhmaaGreatDoor
