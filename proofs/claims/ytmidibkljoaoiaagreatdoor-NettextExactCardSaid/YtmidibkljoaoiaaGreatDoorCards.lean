/-
  DERIVED. GIVEN WITH THE SEED: THE CARDS: each row of YtmidibkljoaoiaaGreatDoorRows.lean that lists a variable, with what it lists TIED to the program's text (the seventh form; the later family's looks); each row that meets fmt, with fmt's text TOLD by the authors' own Lean function (tested against real Go, not proved from fmt's source: count such statements apart). THE CARD IS WHAT COUNTS. Prove the row's statement (the work); the ties are given (YtmidibkljoaoiaaGreatDoorTie.lean); close each card by the builder's one call (the guide's Derived/Test/ToyasCard.lean, 'card_holds'). Laid BY PROGRAM, IN A SANDBOX (cutbox-door.mjs). By AI agents, Wed Nov 11 2026. No macro, syntax, notation, axiom, sorry.
-/
import Derived.Test.YtmidibkljoaoiaaGreatDoorRows
import GoSem.ClaimSeven
namespace Go.Proofs.YtmidibkljoaoiaaGreatDoor
namespace Rows

/-- THE TIED CARD OF 'netcalculuslaw24.NettextExact'. -/
def nettextExactCard : Claim7 := { stood := { row := nettextExactRow, standIns := [], harness := (true, "a8ab417d27d32975a5500058816fde3c7ee168de5f4d2e0157cc9cb094bec51d"), looks := true }, kinds := [], alts := [], laidByText := true, laidKinds := [.data, .data, .data, .data, .sentinel, .sentinel, .pinned], laidTests := true, laidLooks := .later }
def NettextExactCardSaid : Prop := Claim7.holds Tryz.pinned (.plain (OpenSpec.ofChange nettextExactSpec)) nettextExactCard

/-- THE TIED CARD OF 'netcalculuslaw24.NettextBack'. -/
def nettextBackCard : Claim7 := { stood := { row := nettextBackRow, standIns := [], harness := (true, "a8ab417d27d32975a5500058816fde3c7ee168de5f4d2e0157cc9cb094bec51d"), looks := true }, kinds := [], alts := [], laidByText := true, laidKinds := [.data, .data, .data, .data, .sentinel, .sentinel, .pinned], laidTests := true, laidLooks := .later }
def NettextBackCardSaid : Prop := Claim7.holds Tryz.pinned (.plain (OpenSpec.ofChange nettextBackSpec)) nettextBackCard

/-- THE TIED CARD OF 'netcalculuslaw24.NettextPlaces'. -/
def nettextPlacesCard : Claim7 := { stood := { row := nettextPlacesRow, standIns := [], harness := (true, "a8ab417d27d32975a5500058816fde3c7ee168de5f4d2e0157cc9cb094bec51d"), looks := true }, kinds := [], alts := [], laidByText := true, laidKinds := [.data, .data, .data, .data, .sentinel, .sentinel, .pinned], laidTests := true, laidLooks := .later }
def NettextPlacesCardSaid : Prop := Claim7.holds Tryz.pinned (.plain (OpenSpec.ofChange nettextPlacesSpec)) nettextPlacesCard

/-- THE TIED CARD OF 'netcalculuslaw24.NettextKinds'. -/
def nettextKindsCard : Claim7 := { stood := { row := nettextKindsRow, standIns := [], harness := (true, "a8ab417d27d32975a5500058816fde3c7ee168de5f4d2e0157cc9cb094bec51d"), looks := true }, kinds := [], alts := [], laidByText := true, laidKinds := [.data, .data, .data, .data, .sentinel, .sentinel, .pinned], laidTests := true, laidLooks := .later }
def NettextKindsCardSaid : Prop := Claim7.holds Tryz.pinned (.plain (OpenSpec.ofChange nettextKindsSpec)) nettextKindsCard

/-- THE SECOND FORM's CARD OF 'netcalculuslaw24.NettextExact'. -/
def nettextExactUptoCard : Claim7 := { stood := { row := nettextExactUptoRow, standIns := [], harness := (true, "a8ab417d27d32975a5500058816fde3c7ee168de5f4d2e0157cc9cb094bec51d"), looks := true }, kinds := [], alts := [], laidByText := true, laidKinds := [.data, .data, .data, .data, .sentinel, .sentinel, .pinned], laidTests := true, laidLooks := .later }
def NettextExactUptoCardSaid : Prop := Claim7.holds Tryz.pinned (.plain (OpenSpec.upto nettextExactSpec)) nettextExactUptoCard

/-- THE SECOND FORM's CARD OF 'netcalculuslaw24.NettextBack'. -/
def nettextBackUptoCard : Claim7 := { stood := { row := nettextBackUptoRow, standIns := [], harness := (true, "a8ab417d27d32975a5500058816fde3c7ee168de5f4d2e0157cc9cb094bec51d"), looks := true }, kinds := [], alts := [], laidByText := true, laidKinds := [.data, .data, .data, .data, .sentinel, .sentinel, .pinned], laidTests := true, laidLooks := .later }
def NettextBackUptoCardSaid : Prop := Claim7.holds Tryz.pinned (.plain (OpenSpec.upto nettextBackSpec)) nettextBackUptoCard

/-- THE SECOND FORM's CARD OF 'netcalculuslaw24.NettextPlaces'. -/
def nettextPlacesUptoCard : Claim7 := { stood := { row := nettextPlacesUptoRow, standIns := [], harness := (true, "a8ab417d27d32975a5500058816fde3c7ee168de5f4d2e0157cc9cb094bec51d"), looks := true }, kinds := [], alts := [], laidByText := true, laidKinds := [.data, .data, .data, .data, .sentinel, .sentinel, .pinned], laidTests := true, laidLooks := .later }
def NettextPlacesUptoCardSaid : Prop := Claim7.holds Tryz.pinned (.plain (OpenSpec.upto nettextPlacesSpec)) nettextPlacesUptoCard

/-- THE SECOND FORM's CARD OF 'netcalculuslaw24.NettextKinds'. -/
def nettextKindsUptoCard : Claim7 := { stood := { row := nettextKindsUptoRow, standIns := [], harness := (true, "a8ab417d27d32975a5500058816fde3c7ee168de5f4d2e0157cc9cb094bec51d"), looks := true }, kinds := [], alts := [], laidByText := true, laidKinds := [.data, .data, .data, .data, .sentinel, .sentinel, .pinned], laidTests := true, laidLooks := .later }
def NettextKindsUptoCardSaid : Prop := Claim7.holds Tryz.pinned (.plain (OpenSpec.upto nettextKindsSpec)) nettextKindsUptoCard
end Rows
end Go.Proofs.YtmidibkljoaoiaaGreatDoor
