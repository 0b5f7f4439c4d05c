/-
  DERIVED. GIVEN WITH THE SEED: THE CARDS: each row of YtjacpnojnoompaaDoorRows.lean that lists a variable, with what it lists TIED to the program's text (the seventh form; the later family's looks); each row that meets fmt, with fmt's text TOLD by the authors' own Lean function (tested against real Go, not proved from fmt's source: count such statements apart). THE CARD IS WHAT COUNTS. Prove the row's statement (the work); the ties are given (YtjacpnojnoompaaDoorTie.lean); close each card by the builder's one call (the guide's Derived/Test/ToyasCard.lean, 'card_holds'). Laid BY PROGRAM, IN A SANDBOX (cutbox-door.mjs). By AI agents, Wed Nov 11 2026. No macro, syntax, notation, axiom, sorry.
-/
import Derived.Test.YtjacpnojnoompaaDoorRows
import GoSem.ClaimSeven
namespace Go.Proofs.YtjacpnojnoompaaDoor
namespace Rows

/-- THE TIED CARD OF 'netcalculuslaw40.JournalChanged'. -/
def journalChangedCard : Claim7 := { stood := { row := journalChangedRow, standIns := [], harness := (true, "213b891203c229090194b21b738cbee38597a5feec4cee3bd091f8bcbc36b95e"), looks := true }, kinds := [], alts := [], laidByText := true, laidKinds := [.data, .pinned], laidTests := true, laidLooks := .later }
def JournalChangedCardSaid : Prop := Claim7.holds Tryd.pinned (.plain (OpenSpec.ofChange journalChangedSpec)) journalChangedCard

/-- THE TIED CARD OF 'netcalculuslaw40.JournalMany'. -/
def journalManyCard : Claim7 := { stood := { row := journalManyRow, standIns := [], harness := (true, "213b891203c229090194b21b738cbee38597a5feec4cee3bd091f8bcbc36b95e"), looks := true }, kinds := [], alts := [], laidByText := true, laidKinds := [.data, .pinned], laidTests := true, laidLooks := .later }
def JournalManyCardSaid : Prop := Claim7.holds Tryd.pinned (.plain (OpenSpec.ofChange journalManySpec)) journalManyCard

/-- THE TIED CARD OF 'netcalculuslaw40.JournalExact'. -/
def journalExactCard : Claim7 := { stood := { row := journalExactRow, standIns := [], harness := (true, "213b891203c229090194b21b738cbee38597a5feec4cee3bd091f8bcbc36b95e"), looks := true }, kinds := [], alts := [], laidByText := true, laidKinds := [.data, .pinned], laidTests := true, laidLooks := .later }
def JournalExactCardSaid : Prop := Claim7.holds Tryd.pinned (.plain (OpenSpec.ofChange journalExactSpec)) journalExactCard

/-- THE TIED CARD OF 'netcalculuslaw40.JournalTorn'. -/
def journalTornCard : Claim7 := { stood := { row := journalTornRow, standIns := [], harness := (true, "213b891203c229090194b21b738cbee38597a5feec4cee3bd091f8bcbc36b95e"), looks := true }, kinds := [], alts := [], laidByText := true, laidKinds := [.data, .pinned], laidTests := true, laidLooks := .later }
def JournalTornCardSaid : Prop := Claim7.holds Tryd.pinned (.plain (OpenSpec.ofChange journalTornSpec)) journalTornCard

/-- THE TIED CARD OF 'netcalculuslaw01.FractionTexts'. -/
def fractionTextsCard : Claim7 := { stood := { row := fractionTextsRow, standIns := [], harness := (true, "213b891203c229090194b21b738cbee38597a5feec4cee3bd091f8bcbc36b95e"), looks := true }, kinds := [], alts := [], laidByText := true, laidKinds := [.data, .data, .data, .sentinel, .sentinel], laidTests := true, laidLooks := .later }
def FractionTextsCardSaid : Prop := Claim7.holds Tryd.pinned (.plain (OpenSpec.ofChange fractionTextsSpec)) fractionTextsCard

/-- THE TIED CARD OF 'netcalculuslaw01.FractionLimits'. -/
def fractionLimitsCard : Claim7 := { stood := { row := fractionLimitsRow, standIns := [], harness := (true, "213b891203c229090194b21b738cbee38597a5feec4cee3bd091f8bcbc36b95e"), looks := true }, kinds := [], alts := [], laidByText := true, laidKinds := [.data, .data, .data, .sentinel, .sentinel], laidTests := true, laidLooks := .later }
def FractionLimitsCardSaid : Prop := Claim7.holds Tryd.pinned (.plain (OpenSpec.ofChange fractionLimitsSpec)) fractionLimitsCard

/-- THE TIED CARD OF 'netcalculuslaw01.FractionRounds'. -/
def fractionRoundsCard : Claim7 := { stood := { row := fractionRoundsRow, standIns := [], harness := (true, "213b891203c229090194b21b738cbee38597a5feec4cee3bd091f8bcbc36b95e"), looks := true }, kinds := [], alts := [], laidByText := true, laidKinds := [.data, .data, .data, .sentinel, .sentinel], laidTests := true, laidLooks := .later }
def FractionRoundsCardSaid : Prop := Claim7.holds Tryd.pinned (.plain (OpenSpec.ofChange fractionRoundsSpec)) fractionRoundsCard

/-- THE TIED CARD OF 'netcalculuslaw01.FractionOrder'. -/
def fractionOrderCard : Claim7 := { stood := { row := fractionOrderRow, standIns := [], harness := (true, "213b891203c229090194b21b738cbee38597a5feec4cee3bd091f8bcbc36b95e"), looks := true }, kinds := [], alts := [], laidByText := true, laidKinds := [.data, .data, .data, .sentinel, .sentinel], laidTests := true, laidLooks := .later }
def FractionOrderCardSaid : Prop := Claim7.holds Tryd.pinned (.plain (OpenSpec.ofChange fractionOrderSpec)) fractionOrderCard

/-- THE TIED CARD OF 'netcalculuslaw01.FractionField'. -/
def fractionFieldCard : Claim7 := { stood := { row := fractionFieldRow, standIns := [], harness := (true, "213b891203c229090194b21b738cbee38597a5feec4cee3bd091f8bcbc36b95e"), looks := true }, kinds := [], alts := [], laidByText := true, laidKinds := [.data, .data, .data, .sentinel, .sentinel], laidTests := true, laidLooks := .later }
def FractionFieldCardSaid : Prop := Claim7.holds Tryd.pinned (.plain (OpenSpec.ofChange fractionFieldSpec)) fractionFieldCard

/-- THE TIED CARD OF 'netcalculuslaw01.FractionAnswers'. -/
def fractionAnswersCard : Claim7 := { stood := { row := fractionAnswersRow, standIns := [], harness := (true, "213b891203c229090194b21b738cbee38597a5feec4cee3bd091f8bcbc36b95e"), looks := true }, kinds := [], alts := [], laidByText := true, laidKinds := [.data, .data, .data, .sentinel, .sentinel], laidTests := true, laidLooks := .later }
def FractionAnswersCardSaid : Prop := Claim7.holds Tryd.pinned (.plain (OpenSpec.ofChange fractionAnswersSpec)) fractionAnswersCard

/-- THE SECOND FORM's CARD OF 'netcalculuslaw40.JournalChanged'. -/
def journalChangedUptoCard : Claim7 := { stood := { row := journalChangedUptoRow, standIns := [], harness := (true, "213b891203c229090194b21b738cbee38597a5feec4cee3bd091f8bcbc36b95e"), looks := true }, kinds := [], alts := [], laidByText := true, laidKinds := [.data, .pinned], laidTests := true, laidLooks := .later }
def JournalChangedUptoCardSaid : Prop := Claim7.holds Tryd.pinned (.plain (OpenSpec.upto journalChangedSpec)) journalChangedUptoCard

/-- THE SECOND FORM's CARD OF 'netcalculuslaw40.JournalMany'. -/
def journalManyUptoCard : Claim7 := { stood := { row := journalManyUptoRow, standIns := [], harness := (true, "213b891203c229090194b21b738cbee38597a5feec4cee3bd091f8bcbc36b95e"), looks := true }, kinds := [], alts := [], laidByText := true, laidKinds := [.data, .pinned], laidTests := true, laidLooks := .later }
def JournalManyUptoCardSaid : Prop := Claim7.holds Tryd.pinned (.plain (OpenSpec.upto journalManySpec)) journalManyUptoCard

/-- THE SECOND FORM's CARD OF 'netcalculuslaw40.JournalExact'. -/
def journalExactUptoCard : Claim7 := { stood := { row := journalExactUptoRow, standIns := [], harness := (true, "213b891203c229090194b21b738cbee38597a5feec4cee3bd091f8bcbc36b95e"), looks := true }, kinds := [], alts := [], laidByText := true, laidKinds := [.data, .pinned], laidTests := true, laidLooks := .later }
def JournalExactUptoCardSaid : Prop := Claim7.holds Tryd.pinned (.plain (OpenSpec.upto journalExactSpec)) journalExactUptoCard

/-- THE SECOND FORM's CARD OF 'netcalculuslaw40.JournalTorn'. -/
def journalTornUptoCard : Claim7 := { stood := { row := journalTornUptoRow, standIns := [], harness := (true, "213b891203c229090194b21b738cbee38597a5feec4cee3bd091f8bcbc36b95e"), looks := true }, kinds := [], alts := [], laidByText := true, laidKinds := [.data, .pinned], laidTests := true, laidLooks := .later }
def JournalTornUptoCardSaid : Prop := Claim7.holds Tryd.pinned (.plain (OpenSpec.upto journalTornSpec)) journalTornUptoCard

/-- THE SECOND FORM's CARD OF 'netcalculuslaw01.FractionTexts'. -/
def fractionTextsUptoCard : Claim7 := { stood := { row := fractionTextsUptoRow, standIns := [], harness := (true, "213b891203c229090194b21b738cbee38597a5feec4cee3bd091f8bcbc36b95e"), looks := true }, kinds := [], alts := [], laidByText := true, laidKinds := [.data, .data, .data, .sentinel, .sentinel], laidTests := true, laidLooks := .later }
def FractionTextsUptoCardSaid : Prop := Claim7.holds Tryd.pinned (.plain (OpenSpec.upto fractionTextsSpec)) fractionTextsUptoCard

/-- THE SECOND FORM's CARD OF 'netcalculuslaw01.FractionLimits'. -/
def fractionLimitsUptoCard : Claim7 := { stood := { row := fractionLimitsUptoRow, standIns := [], harness := (true, "213b891203c229090194b21b738cbee38597a5feec4cee3bd091f8bcbc36b95e"), looks := true }, kinds := [], alts := [], laidByText := true, laidKinds := [.data, .data, .data, .sentinel, .sentinel], laidTests := true, laidLooks := .later }
def FractionLimitsUptoCardSaid : Prop := Claim7.holds Tryd.pinned (.plain (OpenSpec.upto fractionLimitsSpec)) fractionLimitsUptoCard

/-- THE SECOND FORM's CARD OF 'netcalculuslaw01.FractionRounds'. -/
def fractionRoundsUptoCard : Claim7 := { stood := { row := fractionRoundsUptoRow, standIns := [], harness := (true, "213b891203c229090194b21b738cbee38597a5feec4cee3bd091f8bcbc36b95e"), looks := true }, kinds := [], alts := [], laidByText := true, laidKinds := [.data, .data, .data, .sentinel, .sentinel], laidTests := true, laidLooks := .later }
def FractionRoundsUptoCardSaid : Prop := Claim7.holds Tryd.pinned (.plain (OpenSpec.upto fractionRoundsSpec)) fractionRoundsUptoCard

/-- THE SECOND FORM's CARD OF 'netcalculuslaw01.FractionOrder'. -/
def fractionOrderUptoCard : Claim7 := { stood := { row := fractionOrderUptoRow, standIns := [], harness := (true, "213b891203c229090194b21b738cbee38597a5feec4cee3bd091f8bcbc36b95e"), looks := true }, kinds := [], alts := [], laidByText := true, laidKinds := [.data, .data, .data, .sentinel, .sentinel], laidTests := true, laidLooks := .later }
def FractionOrderUptoCardSaid : Prop := Claim7.holds Tryd.pinned (.plain (OpenSpec.upto fractionOrderSpec)) fractionOrderUptoCard

/-- THE SECOND FORM's CARD OF 'netcalculuslaw01.FractionField'. -/
def fractionFieldUptoCard : Claim7 := { stood := { row := fractionFieldUptoRow, standIns := [], harness := (true, "213b891203c229090194b21b738cbee38597a5feec4cee3bd091f8bcbc36b95e"), looks := true }, kinds := [], alts := [], laidByText := true, laidKinds := [.data, .data, .data, .sentinel, .sentinel], laidTests := true, laidLooks := .later }
def FractionFieldUptoCardSaid : Prop := Claim7.holds Tryd.pinned (.plain (OpenSpec.upto fractionFieldSpec)) fractionFieldUptoCard

/-- THE SECOND FORM's CARD OF 'netcalculuslaw01.FractionAnswers'. -/
def fractionAnswersUptoCard : Claim7 := { stood := { row := fractionAnswersUptoRow, standIns := [], harness := (true, "213b891203c229090194b21b738cbee38597a5feec4cee3bd091f8bcbc36b95e"), looks := true }, kinds := [], alts := [], laidByText := true, laidKinds := [.data, .data, .data, .sentinel, .sentinel], laidTests := true, laidLooks := .later }
def FractionAnswersUptoCardSaid : Prop := Claim7.holds Tryd.pinned (.plain (OpenSpec.upto fractionAnswersSpec)) fractionAnswersUptoCard
end Rows
end Go.Proofs.YtjacpnojnoompaaDoor
