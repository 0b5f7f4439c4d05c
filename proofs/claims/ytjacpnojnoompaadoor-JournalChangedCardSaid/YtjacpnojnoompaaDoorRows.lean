/-
  NARROWER THAN 'FOR EVERY INPUT', by the rows' own cells (each row's printed sentence says how): JournalChanged: laid · JournalMany: laid · JournalExact: laid · JournalTorn: laid · FractionTexts: laid · FractionLimits: laid · FractionRounds: laid · FractionOrder: laid · FractionField: laid · FractionAnswers: laid.
  DERIVED. THE GIVEN ROWS OF THIS SEAT. 10 by the template 'for every input the law returns true; each argument reads behind the call as it read before'; 0 by the template 'total and deterministic' (their statements: YtjacpnojnoompaaDoorTotals.lean).
  GIVEN WITH THE SEED: the statements are not yours to turn. If you find one false, say at which input.
  Laid BY PROGRAM, IN A SANDBOX (cutbox-rows.mjs): the forced cells as the released guide's own fill.sh prints them over the translation 55364ec320f98d3b… (all of the seat's roots in one cut). By AI agents, Wed Nov 11 2026. No macro, syntax, notation, axiom, sorry.
-/
import Derived.Test.YtjacpnojnoompaaDoorChecked
import GoSem.PinnedTables
import GoSem.Claim
import GoSem.ClaimJoined
import GoSem.ClaimMapViews
import Derived.JoinedTies
import Derived.KernelRfl
namespace Go.Proofs.YtjacpnojnoompaaDoor
/- THE CELL 'sum', in the pinned program and in every row, IS THE sha256 OF THE DUMP (.gsa) THAT YtjacpnojnoompaaDoorProg.lean LOADS. Nothing in Lean hashes anything: it is a label: what it is worth is what the hold of that sum in a sandbox is worth. -/
noncomputable def Tryd.pinned : Pinned := { name := "ytjacpnojnoompaadoor", sum := "55364ec320f98d3bcc7e251c7821ececf3e97b7d1c0cdab26edc2afec1f80a9d", checked := Tryd.checked }
namespace Rows
def none {H : Type} : Left H := { results := [], args := [] }

/- WHAT THE LISTED PACKAGE-LEVEL VARIABLES READ AS WHEN THE CALL BEGINS. Each datum BY PROGRAM (the guide's laid-datum.mjs) off the statement by which the dump's own 'gosem.cut.vars' lays the variable. In a bare row this is a premise. The card (YtjacpnojnoompaaDoorCards.lean) ties it to the program's text. -/
def laid_unicode_utf8_acceptRanges {H : Type} : DataW H := .agg [.agg [.lit (.int .u8 128), .lit (.int .u8 191)], .agg [.lit (.int .u8 160), .lit (.int .u8 191)], .agg [.lit (.int .u8 128), .lit (.int .u8 159)], .agg [.lit (.int .u8 144), .lit (.int .u8 191)], .agg [.lit (.int .u8 128), .lit (.int .u8 143)], .agg [.lit (.int .u8 0), .lit (.int .u8 0)], .agg [.lit (.int .u8 0), .lit (.int .u8 0)], .agg [.lit (.int .u8 0), .lit (.int .u8 0)], .agg [.lit (.int .u8 0), .lit (.int .u8 0)], .agg [.lit (.int .u8 0), .lit (.int .u8 0)], .agg [.lit (.int .u8 0), .lit (.int .u8 0)], .agg [.lit (.int .u8 0), .lit (.int .u8 0)], .agg [.lit (.int .u8 0), .lit (.int .u8 0)], .agg [.lit (.int .u8 0), .lit (.int .u8 0)], .agg [.lit (.int .u8 0), .lit (.int .u8 0)], .agg [.lit (.int .u8 0), .lit (.int .u8 0)]]
/-- One of Go's own tables, pinned by name: the form's constant. -/
def laid_unicode_utf8_first : DataW Unit := Go.Pinned.utf8First
def laid_math_bits_deBruijn32tab {H : Type} : DataW H := .agg [.lit (.int .u8 0), .lit (.int .u8 1), .lit (.int .u8 28), .lit (.int .u8 2), .lit (.int .u8 29), .lit (.int .u8 14), .lit (.int .u8 24), .lit (.int .u8 3), .lit (.int .u8 30), .lit (.int .u8 22), .lit (.int .u8 20), .lit (.int .u8 15), .lit (.int .u8 25), .lit (.int .u8 17), .lit (.int .u8 4), .lit (.int .u8 8), .lit (.int .u8 31), .lit (.int .u8 27), .lit (.int .u8 13), .lit (.int .u8 23), .lit (.int .u8 21), .lit (.int .u8 19), .lit (.int .u8 16), .lit (.int .u8 7), .lit (.int .u8 26), .lit (.int .u8 12), .lit (.int .u8 18), .lit (.int .u8 6), .lit (.int .u8 11), .lit (.int .u8 5), .lit (.int .u8 10), .lit (.int .u8 9)]
def laid_math_bits_deBruijn64tab {H : Type} : DataW H := .agg [.lit (.int .u8 0), .lit (.int .u8 1), .lit (.int .u8 56), .lit (.int .u8 2), .lit (.int .u8 57), .lit (.int .u8 49), .lit (.int .u8 28), .lit (.int .u8 3), .lit (.int .u8 61), .lit (.int .u8 58), .lit (.int .u8 42), .lit (.int .u8 50), .lit (.int .u8 38), .lit (.int .u8 29), .lit (.int .u8 17), .lit (.int .u8 4), .lit (.int .u8 62), .lit (.int .u8 47), .lit (.int .u8 59), .lit (.int .u8 36), .lit (.int .u8 45), .lit (.int .u8 43), .lit (.int .u8 51), .lit (.int .u8 22), .lit (.int .u8 53), .lit (.int .u8 39), .lit (.int .u8 33), .lit (.int .u8 30), .lit (.int .u8 24), .lit (.int .u8 18), .lit (.int .u8 12), .lit (.int .u8 5), .lit (.int .u8 63), .lit (.int .u8 55), .lit (.int .u8 48), .lit (.int .u8 27), .lit (.int .u8 60), .lit (.int .u8 41), .lit (.int .u8 37), .lit (.int .u8 16), .lit (.int .u8 46), .lit (.int .u8 35), .lit (.int .u8 44), .lit (.int .u8 21), .lit (.int .u8 52), .lit (.int .u8 32), .lit (.int .u8 23), .lit (.int .u8 11), .lit (.int .u8 54), .lit (.int .u8 26), .lit (.int .u8 40), .lit (.int .u8 15), .lit (.int .u8 34), .lit (.int .u8 20), .lit (.int .u8 31), .lit (.int .u8 10), .lit (.int .u8 25), .lit (.int .u8 14), .lit (.int .u8 19), .lit (.int .u8 9), .lit (.int .u8 13), .lit (.int .u8 8), .lit (.int .u8 7), .lit (.int .u8 6)]
def laid_internal_strconv_uint64pow10 {H : Type} : DataW H := .agg [.lit (.int .u64 1), .lit (.int .u64 10), .lit (.int .u64 100), .lit (.int .u64 1000), .lit (.int .u64 10000), .lit (.int .u64 100000), .lit (.int .u64 1000000), .lit (.int .u64 10000000), .lit (.int .u64 100000000), .lit (.int .u64 1000000000), .lit (.int .u64 10000000000), .lit (.int .u64 100000000000), .lit (.int .u64 1000000000000), .lit (.int .u64 10000000000000), .lit (.int .u64 100000000000000), .lit (.int .u64 1000000000000000), .lit (.int .u64 10000000000000000), .lit (.int .u64 100000000000000000), .lit (.int .u64 1000000000000000000), .lit (.int .u64 10000000000000000000)]
def laid_strconv_ErrRange {H : Type} : DataW H := .iface "*errors.errorString" (.ptr (.agg [.lit (.string [118, 97, 108, 117, 101, 32, 111, 117, 116, 32, 111, 102, 32, 114, 97, 110, 103, 101])]))
def laid_strconv_ErrSyntax {H : Type} : DataW H := .iface "*errors.errorString" (.ptr (.agg [.lit (.string [105, 110, 118, 97, 108, 105, 100, 32, 115, 121, 110, 116, 97, 120])]))

/-- 'netcalculuslaw40.JournalChanged': WHATEVER THE INPUT: true; the input reads as it did. -/
def journalChangedSpec : ChangeSpec := { name := "journalChanged", fn := fun _ => fun
  | [d1, d2, d3] => { results := [.lit (.bool true)], args := [d1, d2, d3] }
  | _ => none }
def journalChangedRow : OpenClaim := { program := "ytjacpnojnoompaadoor", sum := "55364ec320f98d3bcc7e251c7821ececf3e97b7d1c0cdab26edc2afec1f80a9d", func := "netcalculus/netcalculuslaw40.JournalChanged", spec := "journalChanged", inPlace := ["internal/abi.NoEscape", "internal/bytealg.IndexByteString", "internal/bytealg.IndexString", "internal/bytealg.CountString"], recurses := true, named := ["internal/bytealg.MaxLen", "unicode/utf8.first", "unicode/utf8.acceptRanges"], apart := false, laid := [("unicode/utf8.acceptRanges", laid_unicode_utf8_acceptRanges), ("unicode/utf8.first", laid_unicode_utf8_first)] }
def JournalChangedSaid : Prop := journalChangedRow.holds Tryd.pinned (OpenSpec.ofChange journalChangedSpec)

/-- ITS FALSE NEIGHBOUR: 'it returns false'. Refute it at one input. -/
def journalChangedWrong : ChangeSpec := { name := "journalChanged", fn := fun _ => fun
  | [d1, d2, d3] => { results := [.lit (.bool false)], args := [d1, d2, d3] }
  | _ => none }
def JournalChangedWrongFalsely : Prop := journalChangedRow.holds Tryd.pinned (OpenSpec.ofChange journalChangedWrong)

/-- 'netcalculuslaw40.JournalMany': WHATEVER THE INPUT: true; the input reads as it did. -/
def journalManySpec : ChangeSpec := { name := "journalMany", fn := fun _ => fun
  | [d] => { results := [.lit (.bool true)], args := [d] }
  | _ => none }
def journalManyRow : OpenClaim := { program := "ytjacpnojnoompaadoor", sum := "55364ec320f98d3bcc7e251c7821ececf3e97b7d1c0cdab26edc2afec1f80a9d", func := "netcalculus/netcalculuslaw40.JournalMany", spec := "journalMany", inPlace := ["internal/abi.NoEscape", "internal/bytealg.IndexByteString", "internal/bytealg.IndexString", "internal/bytealg.CountString"], recurses := true, named := ["internal/bytealg.MaxLen", "unicode/utf8.first", "unicode/utf8.acceptRanges"], apart := false, laid := [("unicode/utf8.acceptRanges", laid_unicode_utf8_acceptRanges), ("unicode/utf8.first", laid_unicode_utf8_first)] }
def JournalManySaid : Prop := journalManyRow.holds Tryd.pinned (OpenSpec.ofChange journalManySpec)

/-- ITS FALSE NEIGHBOUR: 'it returns false'. Refute it at one input. -/
def journalManyWrong : ChangeSpec := { name := "journalMany", fn := fun _ => fun
  | [d] => { results := [.lit (.bool false)], args := [d] }
  | _ => none }
def JournalManyWrongFalsely : Prop := journalManyRow.holds Tryd.pinned (OpenSpec.ofChange journalManyWrong)

/-- 'netcalculuslaw40.JournalExact': WHATEVER THE INPUT: true; the input reads as it did. -/
def journalExactSpec : ChangeSpec := { name := "journalExact", fn := fun _ => fun
  | [d1, d2, d3, d4, d5] => { results := [.lit (.bool true)], args := [d1, d2, d3, d4, d5] }
  | _ => none }
def journalExactRow : OpenClaim := { program := "ytjacpnojnoompaadoor", sum := "55364ec320f98d3bcc7e251c7821ececf3e97b7d1c0cdab26edc2afec1f80a9d", func := "netcalculus/netcalculuslaw40.JournalExact", spec := "journalExact", inPlace := ["internal/abi.NoEscape", "internal/bytealg.IndexByteString", "internal/bytealg.IndexString", "internal/bytealg.CountString"], recurses := true, named := ["internal/bytealg.MaxLen", "unicode/utf8.first", "unicode/utf8.acceptRanges"], apart := false, laid := [("unicode/utf8.acceptRanges", laid_unicode_utf8_acceptRanges), ("unicode/utf8.first", laid_unicode_utf8_first)] }
def JournalExactSaid : Prop := journalExactRow.holds Tryd.pinned (OpenSpec.ofChange journalExactSpec)

/-- ITS FALSE NEIGHBOUR: 'it returns false'. Refute it at one input. -/
def journalExactWrong : ChangeSpec := { name := "journalExact", fn := fun _ => fun
  | [d1, d2, d3, d4, d5] => { results := [.lit (.bool false)], args := [d1, d2, d3, d4, d5] }
  | _ => none }
def JournalExactWrongFalsely : Prop := journalExactRow.holds Tryd.pinned (OpenSpec.ofChange journalExactWrong)

/-- 'netcalculuslaw40.JournalTorn': WHATEVER THE INPUT: true; the input reads as it did. -/
def journalTornSpec : ChangeSpec := { name := "journalTorn", fn := fun _ => fun
  | [d1, d2] => { results := [.lit (.bool true)], args := [d1, d2] }
  | _ => none }
def journalTornRow : OpenClaim := { program := "ytjacpnojnoompaadoor", sum := "55364ec320f98d3bcc7e251c7821ececf3e97b7d1c0cdab26edc2afec1f80a9d", func := "netcalculus/netcalculuslaw40.JournalTorn", spec := "journalTorn", inPlace := ["internal/abi.NoEscape", "internal/bytealg.IndexByteString", "internal/bytealg.IndexString", "internal/bytealg.CountString"], recurses := true, named := ["internal/bytealg.MaxLen", "unicode/utf8.first", "unicode/utf8.acceptRanges"], apart := false, laid := [("unicode/utf8.acceptRanges", laid_unicode_utf8_acceptRanges), ("unicode/utf8.first", laid_unicode_utf8_first)] }
def JournalTornSaid : Prop := journalTornRow.holds Tryd.pinned (OpenSpec.ofChange journalTornSpec)

/-- ITS FALSE NEIGHBOUR: 'it returns false'. Refute it at one input. -/
def journalTornWrong : ChangeSpec := { name := "journalTorn", fn := fun _ => fun
  | [d1, d2] => { results := [.lit (.bool false)], args := [d1, d2] }
  | _ => none }
def JournalTornWrongFalsely : Prop := journalTornRow.holds Tryd.pinned (OpenSpec.ofChange journalTornWrong)

/-- 'netcalculuslaw01.FractionTexts': WHATEVER THE INPUT: true; the input reads as it did. -/
def fractionTextsSpec : ChangeSpec := { name := "fractionTexts", fn := fun _ => fun
  | [d1, d2] => { results := [.lit (.bool true)], args := [d1, d2] }
  | _ => none }
def fractionTextsRow : OpenClaim := { program := "ytjacpnojnoompaadoor", sum := "55364ec320f98d3bcc7e251c7821ececf3e97b7d1c0cdab26edc2afec1f80a9d", func := "netcalculus/netcalculuslaw01.FractionTexts", spec := "fractionTexts", inPlace := ["internal/bytealg.IndexByteString", "internal/bytealg.IndexString"], named := ["internal/bytealg.MaxLen", "strconv.ErrSyntax", "strconv.ErrRange", "internal/strconv.uint64pow10", "math/bits.deBruijn32tab", "math/bits.deBruijn64tab"], apart := false, laid := [("math/bits.deBruijn32tab", laid_math_bits_deBruijn32tab), ("math/bits.deBruijn64tab", laid_math_bits_deBruijn64tab), ("internal/strconv.uint64pow10", laid_internal_strconv_uint64pow10), ("strconv.ErrRange", laid_strconv_ErrRange), ("strconv.ErrSyntax", laid_strconv_ErrSyntax)] }
def FractionTextsSaid : Prop := fractionTextsRow.holds Tryd.pinned (OpenSpec.ofChange fractionTextsSpec)

/-- ITS FALSE NEIGHBOUR: 'it returns false'. Refute it at one input. -/
def fractionTextsWrong : ChangeSpec := { name := "fractionTexts", fn := fun _ => fun
  | [d1, d2] => { results := [.lit (.bool false)], args := [d1, d2] }
  | _ => none }
def FractionTextsWrongFalsely : Prop := fractionTextsRow.holds Tryd.pinned (OpenSpec.ofChange fractionTextsWrong)

/-- 'netcalculuslaw01.FractionLimits': WHATEVER THE INPUT: true; the input reads as it did. -/
def fractionLimitsSpec : ChangeSpec := { name := "fractionLimits", fn := fun _ => fun
  | [d] => { results := [.lit (.bool true)], args := [d] }
  | _ => none }
def fractionLimitsRow : OpenClaim := { program := "ytjacpnojnoompaadoor", sum := "55364ec320f98d3bcc7e251c7821ececf3e97b7d1c0cdab26edc2afec1f80a9d", func := "netcalculus/netcalculuslaw01.FractionLimits", spec := "fractionLimits", inPlace := ["internal/bytealg.IndexByteString", "internal/bytealg.IndexString"], named := ["internal/bytealg.MaxLen", "strconv.ErrSyntax", "strconv.ErrRange", "internal/strconv.uint64pow10", "math/bits.deBruijn32tab", "math/bits.deBruijn64tab"], apart := false, laid := [("math/bits.deBruijn32tab", laid_math_bits_deBruijn32tab), ("math/bits.deBruijn64tab", laid_math_bits_deBruijn64tab), ("internal/strconv.uint64pow10", laid_internal_strconv_uint64pow10), ("strconv.ErrRange", laid_strconv_ErrRange), ("strconv.ErrSyntax", laid_strconv_ErrSyntax)] }
def FractionLimitsSaid : Prop := fractionLimitsRow.holds Tryd.pinned (OpenSpec.ofChange fractionLimitsSpec)

/-- ITS FALSE NEIGHBOUR: 'it returns false'. Refute it at one input. -/
def fractionLimitsWrong : ChangeSpec := { name := "fractionLimits", fn := fun _ => fun
  | [d] => { results := [.lit (.bool false)], args := [d] }
  | _ => none }
def FractionLimitsWrongFalsely : Prop := fractionLimitsRow.holds Tryd.pinned (OpenSpec.ofChange fractionLimitsWrong)

/-- 'netcalculuslaw01.FractionRounds': WHATEVER THE INPUT: true; the input reads as it did. -/
def fractionRoundsSpec : ChangeSpec := { name := "fractionRounds", fn := fun _ => fun
  | [d] => { results := [.lit (.bool true)], args := [d] }
  | _ => none }
def fractionRoundsRow : OpenClaim := { program := "ytjacpnojnoompaadoor", sum := "55364ec320f98d3bcc7e251c7821ececf3e97b7d1c0cdab26edc2afec1f80a9d", func := "netcalculus/netcalculuslaw01.FractionRounds", spec := "fractionRounds", inPlace := ["internal/bytealg.IndexByteString", "internal/bytealg.IndexString"], named := ["internal/bytealg.MaxLen", "strconv.ErrSyntax", "strconv.ErrRange", "internal/strconv.uint64pow10", "math/bits.deBruijn32tab", "math/bits.deBruijn64tab"], apart := false, laid := [("math/bits.deBruijn32tab", laid_math_bits_deBruijn32tab), ("math/bits.deBruijn64tab", laid_math_bits_deBruijn64tab), ("internal/strconv.uint64pow10", laid_internal_strconv_uint64pow10), ("strconv.ErrRange", laid_strconv_ErrRange), ("strconv.ErrSyntax", laid_strconv_ErrSyntax)] }
def FractionRoundsSaid : Prop := fractionRoundsRow.holds Tryd.pinned (OpenSpec.ofChange fractionRoundsSpec)

/-- ITS FALSE NEIGHBOUR: 'it returns false'. Refute it at one input. -/
def fractionRoundsWrong : ChangeSpec := { name := "fractionRounds", fn := fun _ => fun
  | [d] => { results := [.lit (.bool false)], args := [d] }
  | _ => none }
def FractionRoundsWrongFalsely : Prop := fractionRoundsRow.holds Tryd.pinned (OpenSpec.ofChange fractionRoundsWrong)

/-- 'netcalculuslaw01.FractionOrder': WHATEVER THE INPUT: true; the input reads as it did. -/
def fractionOrderSpec : ChangeSpec := { name := "fractionOrder", fn := fun _ => fun
  | [d] => { results := [.lit (.bool true)], args := [d] }
  | _ => none }
def fractionOrderRow : OpenClaim := { program := "ytjacpnojnoompaadoor", sum := "55364ec320f98d3bcc7e251c7821ececf3e97b7d1c0cdab26edc2afec1f80a9d", func := "netcalculus/netcalculuslaw01.FractionOrder", spec := "fractionOrder", inPlace := ["internal/bytealg.IndexByteString", "internal/bytealg.IndexString"], named := ["internal/bytealg.MaxLen", "strconv.ErrSyntax", "strconv.ErrRange", "internal/strconv.uint64pow10", "math/bits.deBruijn32tab", "math/bits.deBruijn64tab"], apart := false, laid := [("math/bits.deBruijn32tab", laid_math_bits_deBruijn32tab), ("math/bits.deBruijn64tab", laid_math_bits_deBruijn64tab), ("internal/strconv.uint64pow10", laid_internal_strconv_uint64pow10), ("strconv.ErrRange", laid_strconv_ErrRange), ("strconv.ErrSyntax", laid_strconv_ErrSyntax)] }
def FractionOrderSaid : Prop := fractionOrderRow.holds Tryd.pinned (OpenSpec.ofChange fractionOrderSpec)

/-- ITS FALSE NEIGHBOUR: 'it returns false'. Refute it at one input. -/
def fractionOrderWrong : ChangeSpec := { name := "fractionOrder", fn := fun _ => fun
  | [d] => { results := [.lit (.bool false)], args := [d] }
  | _ => none }
def FractionOrderWrongFalsely : Prop := fractionOrderRow.holds Tryd.pinned (OpenSpec.ofChange fractionOrderWrong)

/-- 'netcalculuslaw01.FractionField': WHATEVER THE INPUT: true; the input reads as it did. -/
def fractionFieldSpec : ChangeSpec := { name := "fractionField", fn := fun _ => fun
  | [d] => { results := [.lit (.bool true)], args := [d] }
  | _ => none }
def fractionFieldRow : OpenClaim := { program := "ytjacpnojnoompaadoor", sum := "55364ec320f98d3bcc7e251c7821ececf3e97b7d1c0cdab26edc2afec1f80a9d", func := "netcalculus/netcalculuslaw01.FractionField", spec := "fractionField", inPlace := ["internal/bytealg.IndexByteString", "internal/bytealg.IndexString"], named := ["internal/bytealg.MaxLen", "strconv.ErrSyntax", "strconv.ErrRange", "internal/strconv.uint64pow10", "math/bits.deBruijn32tab", "math/bits.deBruijn64tab"], apart := false, laid := [("math/bits.deBruijn32tab", laid_math_bits_deBruijn32tab), ("math/bits.deBruijn64tab", laid_math_bits_deBruijn64tab), ("internal/strconv.uint64pow10", laid_internal_strconv_uint64pow10), ("strconv.ErrRange", laid_strconv_ErrRange), ("strconv.ErrSyntax", laid_strconv_ErrSyntax)] }
def FractionFieldSaid : Prop := fractionFieldRow.holds Tryd.pinned (OpenSpec.ofChange fractionFieldSpec)

/-- ITS FALSE NEIGHBOUR: 'it returns false'. Refute it at one input. -/
def fractionFieldWrong : ChangeSpec := { name := "fractionField", fn := fun _ => fun
  | [d] => { results := [.lit (.bool false)], args := [d] }
  | _ => none }
def FractionFieldWrongFalsely : Prop := fractionFieldRow.holds Tryd.pinned (OpenSpec.ofChange fractionFieldWrong)

/-- 'netcalculuslaw01.FractionAnswers': WHATEVER THE INPUT: true; the input reads as it did. -/
def fractionAnswersSpec : ChangeSpec := { name := "fractionAnswers", fn := fun _ => fun
  | [d1, d2, d3, d4, d5, d6] => { results := [.lit (.bool true)], args := [d1, d2, d3, d4, d5, d6] }
  | _ => none }
def fractionAnswersRow : OpenClaim := { program := "ytjacpnojnoompaadoor", sum := "55364ec320f98d3bcc7e251c7821ececf3e97b7d1c0cdab26edc2afec1f80a9d", func := "netcalculus/netcalculuslaw01.FractionAnswers", spec := "fractionAnswers", inPlace := ["internal/bytealg.IndexByteString", "internal/bytealg.IndexString"], recurses := true, named := ["internal/bytealg.MaxLen", "strconv.ErrSyntax", "strconv.ErrRange", "internal/strconv.uint64pow10", "math/bits.deBruijn32tab", "math/bits.deBruijn64tab"], apart := false, laid := [("math/bits.deBruijn32tab", laid_math_bits_deBruijn32tab), ("math/bits.deBruijn64tab", laid_math_bits_deBruijn64tab), ("internal/strconv.uint64pow10", laid_internal_strconv_uint64pow10), ("strconv.ErrRange", laid_strconv_ErrRange), ("strconv.ErrSyntax", laid_strconv_ErrSyntax)] }
def FractionAnswersSaid : Prop := fractionAnswersRow.holds Tryd.pinned (OpenSpec.ofChange fractionAnswersSpec)

/-- ITS FALSE NEIGHBOUR: 'it returns false'. Refute it at one input. -/
def fractionAnswersWrong : ChangeSpec := { name := "fractionAnswers", fn := fun _ => fun
  | [d1, d2, d3, d4, d5, d6] => { results := [.lit (.bool false)], args := [d1, d2, d3, d4, d5, d6] }
  | _ => none }
def FractionAnswersWrongFalsely : Prop := fractionAnswersRow.holds Tryd.pinned (OpenSpec.ofChange fractionAnswersWrong)

/- THE SECOND FORM. 'bulk': how many values and letters a reading holds, each counted each time it is reached (what is shared counts as often as it is met; a slice's spare places count too). A statement '..UptoSaid' is the law's where the arguments, and the package variables that the reading takes, are together of bulk at most 1048576: NARROWER than '..Said'. Prove '..Said' where nothing that the law and all that it calls make is longer than what came in: it says more and counts as full. Else prove '..UptoSaid'. A law counts once. -/
mutual
def uptoBulk {H : Type} : DataW H → Nat
  | .lit (.string bytes) => bytes.length + 1
  | .lit _ => 1
  | .nil => 1
  | .ptr d => uptoBulk d + 1
  | .slice elems spare => uptoBulkAll elems + uptoBulkAll spare + 1
  | .agg parts => uptoBulkAll parts + 1
  | .iface _ d => uptoBulk d + 1
  | .map entries => uptoBulkEntries entries + 1
  | .held _ => 1
def uptoBulkAll {H : Type} : List (DataW H) → Nat
  | [] => 0
  | d :: r => uptoBulk d + uptoBulkAll r
def uptoBulkEntries {H : Type} : List (Lit × DataW H) → Nat
  | [] => 0
  | x :: r => uptoBulkEntry x + uptoBulkEntries r
def uptoBulkEntry {H : Type} : Lit × DataW H → Nat
  | (.string bytes, d) => bytes.length + uptoBulk d + 1
  | (_, d) => uptoBulk d + 1
 end
def uptoSmall : (H : Type) → List (DataW H) → Bool := fun _ ds => decide (uptoBulkAll ds ≤ 1048576)
def OpenSpec.upto (s : _root_.Go.ChangeSpec) : _root_.Go.OpenSpec := { _root_.Go.OpenSpec.ofChange s with cond := some uptoSmall }

/-- 'netcalculuslaw40.JournalChanged', WHERE WHAT IT READS IS OF BULK AT MOST 1048576: true; the input reads as it did. -/
def journalChangedUptoRow : OpenClaim := { program := "ytjacpnojnoompaadoor", sum := "55364ec320f98d3bcc7e251c7821ececf3e97b7d1c0cdab26edc2afec1f80a9d", func := "netcalculus/netcalculuslaw40.JournalChanged", spec := "journalChanged", inPlace := ["internal/abi.NoEscape", "internal/bytealg.IndexByteString", "internal/bytealg.IndexString", "internal/bytealg.CountString"], recurses := true, named := ["internal/bytealg.MaxLen", "unicode/utf8.first", "unicode/utf8.acceptRanges"], apart := false, laid := [("unicode/utf8.acceptRanges", laid_unicode_utf8_acceptRanges), ("unicode/utf8.first", laid_unicode_utf8_first)], narrowed := true }
def JournalChangedUptoSaid : Prop := journalChangedUptoRow.holds Tryd.pinned (OpenSpec.upto journalChangedSpec)

/-- 'netcalculuslaw40.JournalMany', WHERE WHAT IT READS IS OF BULK AT MOST 1048576: true; the input reads as it did. -/
def journalManyUptoRow : OpenClaim := { program := "ytjacpnojnoompaadoor", sum := "55364ec320f98d3bcc7e251c7821ececf3e97b7d1c0cdab26edc2afec1f80a9d", func := "netcalculus/netcalculuslaw40.JournalMany", spec := "journalMany", inPlace := ["internal/abi.NoEscape", "internal/bytealg.IndexByteString", "internal/bytealg.IndexString", "internal/bytealg.CountString"], recurses := true, named := ["internal/bytealg.MaxLen", "unicode/utf8.first", "unicode/utf8.acceptRanges"], apart := false, laid := [("unicode/utf8.acceptRanges", laid_unicode_utf8_acceptRanges), ("unicode/utf8.first", laid_unicode_utf8_first)], narrowed := true }
def JournalManyUptoSaid : Prop := journalManyUptoRow.holds Tryd.pinned (OpenSpec.upto journalManySpec)

/-- 'netcalculuslaw40.JournalExact', WHERE WHAT IT READS IS OF BULK AT MOST 1048576: true; the input reads as it did. -/
def journalExactUptoRow : OpenClaim := { program := "ytjacpnojnoompaadoor", sum := "55364ec320f98d3bcc7e251c7821ececf3e97b7d1c0cdab26edc2afec1f80a9d", func := "netcalculus/netcalculuslaw40.JournalExact", spec := "journalExact", inPlace := ["internal/abi.NoEscape", "internal/bytealg.IndexByteString", "internal/bytealg.IndexString", "internal/bytealg.CountString"], recurses := true, named := ["internal/bytealg.MaxLen", "unicode/utf8.first", "unicode/utf8.acceptRanges"], apart := false, laid := [("unicode/utf8.acceptRanges", laid_unicode_utf8_acceptRanges), ("unicode/utf8.first", laid_unicode_utf8_first)], narrowed := true }
def JournalExactUptoSaid : Prop := journalExactUptoRow.holds Tryd.pinned (OpenSpec.upto journalExactSpec)

/-- 'netcalculuslaw40.JournalTorn', WHERE WHAT IT READS IS OF BULK AT MOST 1048576: true; the input reads as it did. -/
def journalTornUptoRow : OpenClaim := { program := "ytjacpnojnoompaadoor", sum := "55364ec320f98d3bcc7e251c7821ececf3e97b7d1c0cdab26edc2afec1f80a9d", func := "netcalculus/netcalculuslaw40.JournalTorn", spec := "journalTorn", inPlace := ["internal/abi.NoEscape", "internal/bytealg.IndexByteString", "internal/bytealg.IndexString", "internal/bytealg.CountString"], recurses := true, named := ["internal/bytealg.MaxLen", "unicode/utf8.first", "unicode/utf8.acceptRanges"], apart := false, laid := [("unicode/utf8.acceptRanges", laid_unicode_utf8_acceptRanges), ("unicode/utf8.first", laid_unicode_utf8_first)], narrowed := true }
def JournalTornUptoSaid : Prop := journalTornUptoRow.holds Tryd.pinned (OpenSpec.upto journalTornSpec)

/-- 'netcalculuslaw01.FractionTexts', WHERE WHAT IT READS IS OF BULK AT MOST 1048576: true; the input reads as it did. -/
def fractionTextsUptoRow : OpenClaim := { program := "ytjacpnojnoompaadoor", sum := "55364ec320f98d3bcc7e251c7821ececf3e97b7d1c0cdab26edc2afec1f80a9d", func := "netcalculus/netcalculuslaw01.FractionTexts", spec := "fractionTexts", inPlace := ["internal/bytealg.IndexByteString", "internal/bytealg.IndexString"], named := ["internal/bytealg.MaxLen", "strconv.ErrSyntax", "strconv.ErrRange", "internal/strconv.uint64pow10", "math/bits.deBruijn32tab", "math/bits.deBruijn64tab"], apart := false, laid := [("math/bits.deBruijn32tab", laid_math_bits_deBruijn32tab), ("math/bits.deBruijn64tab", laid_math_bits_deBruijn64tab), ("internal/strconv.uint64pow10", laid_internal_strconv_uint64pow10), ("strconv.ErrRange", laid_strconv_ErrRange), ("strconv.ErrSyntax", laid_strconv_ErrSyntax)], narrowed := true }
def FractionTextsUptoSaid : Prop := fractionTextsUptoRow.holds Tryd.pinned (OpenSpec.upto fractionTextsSpec)

/-- 'netcalculuslaw01.FractionLimits', WHERE WHAT IT READS IS OF BULK AT MOST 1048576: true; the input reads as it did. -/
def fractionLimitsUptoRow : OpenClaim := { program := "ytjacpnojnoompaadoor", sum := "55364ec320f98d3bcc7e251c7821ececf3e97b7d1c0cdab26edc2afec1f80a9d", func := "netcalculus/netcalculuslaw01.FractionLimits", spec := "fractionLimits", inPlace := ["internal/bytealg.IndexByteString", "internal/bytealg.IndexString"], named := ["internal/bytealg.MaxLen", "strconv.ErrSyntax", "strconv.ErrRange", "internal/strconv.uint64pow10", "math/bits.deBruijn32tab", "math/bits.deBruijn64tab"], apart := false, laid := [("math/bits.deBruijn32tab", laid_math_bits_deBruijn32tab), ("math/bits.deBruijn64tab", laid_math_bits_deBruijn64tab), ("internal/strconv.uint64pow10", laid_internal_strconv_uint64pow10), ("strconv.ErrRange", laid_strconv_ErrRange), ("strconv.ErrSyntax", laid_strconv_ErrSyntax)], narrowed := true }
def FractionLimitsUptoSaid : Prop := fractionLimitsUptoRow.holds Tryd.pinned (OpenSpec.upto fractionLimitsSpec)

/-- 'netcalculuslaw01.FractionRounds', WHERE WHAT IT READS IS OF BULK AT MOST 1048576: true; the input reads as it did. -/
def fractionRoundsUptoRow : OpenClaim := { program := "ytjacpnojnoompaadoor", sum := "55364ec320f98d3bcc7e251c7821ececf3e97b7d1c0cdab26edc2afec1f80a9d", func := "netcalculus/netcalculuslaw01.FractionRounds", spec := "fractionRounds", inPlace := ["internal/bytealg.IndexByteString", "internal/bytealg.IndexString"], named := ["internal/bytealg.MaxLen", "strconv.ErrSyntax", "strconv.ErrRange", "internal/strconv.uint64pow10", "math/bits.deBruijn32tab", "math/bits.deBruijn64tab"], apart := false, laid := [("math/bits.deBruijn32tab", laid_math_bits_deBruijn32tab), ("math/bits.deBruijn64tab", laid_math_bits_deBruijn64tab), ("internal/strconv.uint64pow10", laid_internal_strconv_uint64pow10), ("strconv.ErrRange", laid_strconv_ErrRange), ("strconv.ErrSyntax", laid_strconv_ErrSyntax)], narrowed := true }
def FractionRoundsUptoSaid : Prop := fractionRoundsUptoRow.holds Tryd.pinned (OpenSpec.upto fractionRoundsSpec)

/-- 'netcalculuslaw01.FractionOrder', WHERE WHAT IT READS IS OF BULK AT MOST 1048576: true; the input reads as it did. -/
def fractionOrderUptoRow : OpenClaim := { program := "ytjacpnojnoompaadoor", sum := "55364ec320f98d3bcc7e251c7821ececf3e97b7d1c0cdab26edc2afec1f80a9d", func := "netcalculus/netcalculuslaw01.FractionOrder", spec := "fractionOrder", inPlace := ["internal/bytealg.IndexByteString", "internal/bytealg.IndexString"], named := ["internal/bytealg.MaxLen", "strconv.ErrSyntax", "strconv.ErrRange", "internal/strconv.uint64pow10", "math/bits.deBruijn32tab", "math/bits.deBruijn64tab"], apart := false, laid := [("math/bits.deBruijn32tab", laid_math_bits_deBruijn32tab), ("math/bits.deBruijn64tab", laid_math_bits_deBruijn64tab), ("internal/strconv.uint64pow10", laid_internal_strconv_uint64pow10), ("strconv.ErrRange", laid_strconv_ErrRange), ("strconv.ErrSyntax", laid_strconv_ErrSyntax)], narrowed := true }
def FractionOrderUptoSaid : Prop := fractionOrderUptoRow.holds Tryd.pinned (OpenSpec.upto fractionOrderSpec)

/-- 'netcalculuslaw01.FractionField', WHERE WHAT IT READS IS OF BULK AT MOST 1048576: true; the input reads as it did. -/
def fractionFieldUptoRow : OpenClaim := { program := "ytjacpnojnoompaadoor", sum := "55364ec320f98d3bcc7e251c7821ececf3e97b7d1c0cdab26edc2afec1f80a9d", func := "netcalculus/netcalculuslaw01.FractionField", spec := "fractionField", inPlace := ["internal/bytealg.IndexByteString", "internal/bytealg.IndexString"], named := ["internal/bytealg.MaxLen", "strconv.ErrSyntax", "strconv.ErrRange", "internal/strconv.uint64pow10", "math/bits.deBruijn32tab", "math/bits.deBruijn64tab"], apart := false, laid := [("math/bits.deBruijn32tab", laid_math_bits_deBruijn32tab), ("math/bits.deBruijn64tab", laid_math_bits_deBruijn64tab), ("internal/strconv.uint64pow10", laid_internal_strconv_uint64pow10), ("strconv.ErrRange", laid_strconv_ErrRange), ("strconv.ErrSyntax", laid_strconv_ErrSyntax)], narrowed := true }
def FractionFieldUptoSaid : Prop := fractionFieldUptoRow.holds Tryd.pinned (OpenSpec.upto fractionFieldSpec)

/-- 'netcalculuslaw01.FractionAnswers', WHERE WHAT IT READS IS OF BULK AT MOST 1048576: true; the input reads as it did. -/
def fractionAnswersUptoRow : OpenClaim := { program := "ytjacpnojnoompaadoor", sum := "55364ec320f98d3bcc7e251c7821ececf3e97b7d1c0cdab26edc2afec1f80a9d", func := "netcalculus/netcalculuslaw01.FractionAnswers", spec := "fractionAnswers", inPlace := ["internal/bytealg.IndexByteString", "internal/bytealg.IndexString"], recurses := true, named := ["internal/bytealg.MaxLen", "strconv.ErrSyntax", "strconv.ErrRange", "internal/strconv.uint64pow10", "math/bits.deBruijn32tab", "math/bits.deBruijn64tab"], apart := false, laid := [("math/bits.deBruijn32tab", laid_math_bits_deBruijn32tab), ("math/bits.deBruijn64tab", laid_math_bits_deBruijn64tab), ("internal/strconv.uint64pow10", laid_internal_strconv_uint64pow10), ("strconv.ErrRange", laid_strconv_ErrRange), ("strconv.ErrSyntax", laid_strconv_ErrSyntax)], narrowed := true }
def FractionAnswersUptoSaid : Prop := fractionAnswersUptoRow.holds Tryd.pinned (OpenSpec.upto fractionAnswersSpec)

end Rows
end Go.Proofs.YtjacpnojnoompaaDoor
