/-
  DERIVED. GIVEN WITH THE SEED: THE CARDS: each row of YtejpkjapmhpmpaaDoorRows.lean that lists a variable, with what it lists TIED to the program's text (the seventh form; the later family's looks); each row that meets fmt, with fmt's text TOLD by the authors' own Lean function (tested against real Go, not proved from fmt's source: count such statements apart). THE CARD IS WHAT COUNTS. Prove the row's statement (the work); the ties are given (YtejpkjapmhpmpaaDoorTie.lean); close each card by the builder's one call (the guide's Derived/Test/ToyasCard.lean, 'card_holds'). Laid BY PROGRAM, IN A SANDBOX (cutbox-door.mjs). By AI agents, Wed Nov 11 2026. No macro, syntax, notation, axiom, sorry.
-/
import Derived.Test.YtejpkjapmhpmpaaDoorRows
import GoSem.ClaimSeven
namespace Go.Proofs.YtejpkjapmhpmpaaDoor
namespace Rows

/-- THE TIED CARD OF 'netcalculuslaw03.NotationPositions'. -/
def notationPositionsCard : Claim7 := { stood := { row := notationPositionsRow, standIns := [], harness := (true, "1c2db47946faa8ff8fdf067c73190dad8394cb5bd72c58f991f507bdec60a432"), looks := true }, kinds := [], alts := [], laidByText := true, laidKinds := [.data, .data, .data, .data, .sentinel, .sentinel, .pinned], laidTests := true, laidLooks := .later }
def NotationPositionsCardSaid : Prop := Claim7.holds Tryd.pinned (.plain (OpenSpec.ofChange notationPositionsSpec)) notationPositionsCard

/-- THE TIED CARD OF 'netcalculuslaw03.NotationCurves'. -/
def notationCurvesCard : Claim7 := { stood := { row := notationCurvesRow, standIns := [], harness := (true, "1c2db47946faa8ff8fdf067c73190dad8394cb5bd72c58f991f507bdec60a432"), looks := true }, kinds := [], alts := [], laidByText := true, laidKinds := [.data, .data, .data, .data, .sentinel, .sentinel, .pinned], laidTests := true, laidLooks := .later }
def NotationCurvesCardSaid : Prop := Claim7.holds Tryd.pinned (.plain (OpenSpec.ofChange notationCurvesSpec)) notationCurvesCard

/-- THE TIED CARD OF 'netcalculuslaw03.NotationLists'. -/
def notationListsCard : Claim7 := { stood := { row := notationListsRow, standIns := [], harness := (true, "1c2db47946faa8ff8fdf067c73190dad8394cb5bd72c58f991f507bdec60a432"), looks := true }, kinds := [], alts := [], laidByText := true, laidKinds := [.data, .data, .data, .data, .sentinel, .sentinel, .pinned], laidTests := true, laidLooks := .later }
def NotationListsCardSaid : Prop := Claim7.holds Tryd.pinned (.plain (OpenSpec.ofChange notationListsSpec)) notationListsCard

/-- THE TIED CARD OF 'netcalculuslaw03.NotationBack'. -/
def notationBackCard : Claim7 := { stood := { row := notationBackRow, standIns := [], harness := (true, "1c2db47946faa8ff8fdf067c73190dad8394cb5bd72c58f991f507bdec60a432"), looks := true }, kinds := [], alts := [], laidByText := true, laidKinds := [.data, .data, .data, .data, .sentinel, .sentinel, .pinned], laidTests := true, laidLooks := .later }
def NotationBackCardSaid : Prop := Claim7.holds Tryd.pinned (.plain (OpenSpec.ofChange notationBackSpec)) notationBackCard

/-- THE SECOND FORM's CARD OF 'netcalculuslaw03.NotationPositions'. -/
def notationPositionsUptoCard : Claim7 := { stood := { row := notationPositionsUptoRow, standIns := [], harness := (true, "1c2db47946faa8ff8fdf067c73190dad8394cb5bd72c58f991f507bdec60a432"), looks := true }, kinds := [], alts := [], laidByText := true, laidKinds := [.data, .data, .data, .data, .sentinel, .sentinel, .pinned], laidTests := true, laidLooks := .later }
def NotationPositionsUptoCardSaid : Prop := Claim7.holds Tryd.pinned (.plain (OpenSpec.upto notationPositionsSpec)) notationPositionsUptoCard

/-- THE SECOND FORM's CARD OF 'netcalculuslaw03.NotationCurves'. -/
def notationCurvesUptoCard : Claim7 := { stood := { row := notationCurvesUptoRow, standIns := [], harness := (true, "1c2db47946faa8ff8fdf067c73190dad8394cb5bd72c58f991f507bdec60a432"), looks := true }, kinds := [], alts := [], laidByText := true, laidKinds := [.data, .data, .data, .data, .sentinel, .sentinel, .pinned], laidTests := true, laidLooks := .later }
def NotationCurvesUptoCardSaid : Prop := Claim7.holds Tryd.pinned (.plain (OpenSpec.upto notationCurvesSpec)) notationCurvesUptoCard

/-- THE SECOND FORM's CARD OF 'netcalculuslaw03.NotationLists'. -/
def notationListsUptoCard : Claim7 := { stood := { row := notationListsUptoRow, standIns := [], harness := (true, "1c2db47946faa8ff8fdf067c73190dad8394cb5bd72c58f991f507bdec60a432"), looks := true }, kinds := [], alts := [], laidByText := true, laidKinds := [.data, .data, .data, .data, .sentinel, .sentinel, .pinned], laidTests := true, laidLooks := .later }
def NotationListsUptoCardSaid : Prop := Claim7.holds Tryd.pinned (.plain (OpenSpec.upto notationListsSpec)) notationListsUptoCard

/-- THE SECOND FORM's CARD OF 'netcalculuslaw03.NotationBack'. -/
def notationBackUptoCard : Claim7 := { stood := { row := notationBackUptoRow, standIns := [], harness := (true, "1c2db47946faa8ff8fdf067c73190dad8394cb5bd72c58f991f507bdec60a432"), looks := true }, kinds := [], alts := [], laidByText := true, laidKinds := [.data, .data, .data, .data, .sentinel, .sentinel, .pinned], laidTests := true, laidLooks := .later }
def NotationBackUptoCardSaid : Prop := Claim7.holds Tryd.pinned (.plain (OpenSpec.upto notationBackSpec)) notationBackUptoCard
end Rows
end Go.Proofs.YtejpkjapmhpmpaaDoor
