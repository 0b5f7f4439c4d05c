/-
  No cell of these rows narrows 'for every input' (looked for: loops, veiled, ifaces, maps, wideKeys, modest, calm, conditions, laid).
  DERIVED. THE GIVEN ROWS OF THIS SEAT. 12 by the template 'for every input the law returns true; each argument reads behind the call as it read before'; 0 by the template 'total and deterministic' (their statements: YtnaeefefggmomaaTotals.lean).
  GIVEN WITH THE SEED: the statements are not yours to turn. If you find one false, say at which input.
  Laid BY PROGRAM, IN A SANDBOX (cutbox-rows.mjs): the forced cells as the released guide's own fill.sh prints them over the translation f3602ccfafc78e34… (all of the seat's roots in one cut). By AI agents, Wed Nov 11 2026. No macro, syntax, notation, axiom, sorry.
-/
import Derived.Test.YtnaeefefggmomaaChecked
import GoSem.Claim
import GoSem.ClaimJoined
import GoSem.ClaimMapViews
import Derived.JoinedTies
import Derived.KernelRfl
namespace Go.Proofs.Ytnaeefefggmomaa
/- THE CELL 'sum', in the pinned program and in every row, IS THE sha256 OF THE DUMP (.gsa) THAT YtnaeefefggmomaaProg.lean LOADS. Nothing in Lean hashes anything: it is a label: what it is worth is what the hold of that sum in a sandbox is worth. -/
noncomputable def Try.pinned : Pinned := { name := "ytnaeefefggmomaa", sum := "f3602ccfafc78e347fc9cf5f7c458522c18245af63953ed68f2c96f0da358a9f", checked := Try.checked }
namespace Rows
def none {H : Type} : Left H := { results := [], args := [] }

/-- 'netcalculuslaw21.SlotsRuns': WHATEVER THE INPUT: true; the input reads as it did. -/
def slotsRunsSpec : ChangeSpec := { name := "slotsRuns", fn := fun _ => fun
  | [d1, d2, d3, d4, d5, d6] => { results := [.lit (.bool true)], args := [d1, d2, d3, d4, d5, d6] }
  | _ => none }
def slotsRunsRow : OpenClaim := { program := "ytnaeefefggmomaa", sum := "f3602ccfafc78e347fc9cf5f7c458522c18245af63953ed68f2c96f0da358a9f", func := "netcalculus/netcalculuslaw21.SlotsRuns", spec := "slotsRuns", unfollowed := true, recurses := true, apart := false }
def SlotsRunsSaid : Prop := slotsRunsRow.holds Try.pinned (OpenSpec.ofChange slotsRunsSpec)

/-- ITS FALSE NEIGHBOUR: 'it returns false'. Refute it at one input. -/
def slotsRunsWrong : ChangeSpec := { name := "slotsRuns", fn := fun _ => fun
  | [d1, d2, d3, d4, d5, d6] => { results := [.lit (.bool false)], args := [d1, d2, d3, d4, d5, d6] }
  | _ => none }
def SlotsRunsWrongFalsely : Prop := slotsRunsRow.holds Try.pinned (OpenSpec.ofChange slotsRunsWrong)

/-- 'netcalculuslaw21.SlotsCurves': WHATEVER THE INPUT: true; the input reads as it did. -/
def slotsCurvesSpec : ChangeSpec := { name := "slotsCurves", fn := fun _ => fun
  | [d1, d2, d3, d4, d5] => { results := [.lit (.bool true)], args := [d1, d2, d3, d4, d5] }
  | _ => none }
def slotsCurvesRow : OpenClaim := { program := "ytnaeefefggmomaa", sum := "f3602ccfafc78e347fc9cf5f7c458522c18245af63953ed68f2c96f0da358a9f", func := "netcalculus/netcalculuslaw21.SlotsCurves", spec := "slotsCurves", unfollowed := true, recurses := true, apart := false }
def SlotsCurvesSaid : Prop := slotsCurvesRow.holds Try.pinned (OpenSpec.ofChange slotsCurvesSpec)

/-- ITS FALSE NEIGHBOUR: 'it returns false'. Refute it at one input. -/
def slotsCurvesWrong : ChangeSpec := { name := "slotsCurves", fn := fun _ => fun
  | [d1, d2, d3, d4, d5] => { results := [.lit (.bool false)], args := [d1, d2, d3, d4, d5] }
  | _ => none }
def SlotsCurvesWrongFalsely : Prop := slotsCurvesRow.holds Try.pinned (OpenSpec.ofChange slotsCurvesWrong)

/-- 'netcalculuslaw21.SlotsApart': WHATEVER THE INPUT: true; the input reads as it did. -/
def slotsApartSpec : ChangeSpec := { name := "slotsApart", fn := fun _ => fun
  | [d] => { results := [.lit (.bool true)], args := [d] }
  | _ => none }
def slotsApartRow : OpenClaim := { program := "ytnaeefefggmomaa", sum := "f3602ccfafc78e347fc9cf5f7c458522c18245af63953ed68f2c96f0da358a9f", func := "netcalculus/netcalculuslaw21.SlotsApart", spec := "slotsApart", unfollowed := true, recurses := true, apart := false }
def SlotsApartSaid : Prop := slotsApartRow.holds Try.pinned (OpenSpec.ofChange slotsApartSpec)

/-- ITS FALSE NEIGHBOUR: 'it returns false'. Refute it at one input. -/
def slotsApartWrong : ChangeSpec := { name := "slotsApart", fn := fun _ => fun
  | [d] => { results := [.lit (.bool false)], args := [d] }
  | _ => none }
def SlotsApartWrongFalsely : Prop := slotsApartRow.holds Try.pinned (OpenSpec.ofChange slotsApartWrong)

/-- 'netcalculuslaw21.SlotsMonotone': WHATEVER THE INPUT: true; the input reads as it did. -/
def slotsMonotoneSpec : ChangeSpec := { name := "slotsMonotone", fn := fun _ => fun
  | [d] => { results := [.lit (.bool true)], args := [d] }
  | _ => none }
def slotsMonotoneRow : OpenClaim := { program := "ytnaeefefggmomaa", sum := "f3602ccfafc78e347fc9cf5f7c458522c18245af63953ed68f2c96f0da358a9f", func := "netcalculus/netcalculuslaw21.SlotsMonotone", spec := "slotsMonotone", unfollowed := true, recurses := true, apart := false }
def SlotsMonotoneSaid : Prop := slotsMonotoneRow.holds Try.pinned (OpenSpec.ofChange slotsMonotoneSpec)

/-- ITS FALSE NEIGHBOUR: 'it returns false'. Refute it at one input. -/
def slotsMonotoneWrong : ChangeSpec := { name := "slotsMonotone", fn := fun _ => fun
  | [d] => { results := [.lit (.bool false)], args := [d] }
  | _ => none }
def SlotsMonotoneWrongFalsely : Prop := slotsMonotoneRow.holds Try.pinned (OpenSpec.ofChange slotsMonotoneWrong)

/-- 'netcalculuslaw21.SlotsWhole': WHATEVER THE INPUT: true; the input reads as it did. -/
def slotsWholeSpec : ChangeSpec := { name := "slotsWhole", fn := fun _ => fun
  | [d] => { results := [.lit (.bool true)], args := [d] }
  | _ => none }
def slotsWholeRow : OpenClaim := { program := "ytnaeefefggmomaa", sum := "f3602ccfafc78e347fc9cf5f7c458522c18245af63953ed68f2c96f0da358a9f", func := "netcalculus/netcalculuslaw21.SlotsWhole", spec := "slotsWhole", unfollowed := true, recurses := true, apart := false }
def SlotsWholeSaid : Prop := slotsWholeRow.holds Try.pinned (OpenSpec.ofChange slotsWholeSpec)

/-- ITS FALSE NEIGHBOUR: 'it returns false'. Refute it at one input. -/
def slotsWholeWrong : ChangeSpec := { name := "slotsWhole", fn := fun _ => fun
  | [d] => { results := [.lit (.bool false)], args := [d] }
  | _ => none }
def SlotsWholeWrongFalsely : Prop := slotsWholeRow.holds Try.pinned (OpenSpec.ofChange slotsWholeWrong)

/-- 'netcalculuslaw18.PriorityRuns': WHATEVER THE INPUT: true; the input reads as it did. -/
def priorityRunsSpec : ChangeSpec := { name := "priorityRuns", fn := fun _ => fun
  | [d1, d2, d3, d4, d5] => { results := [.lit (.bool true)], args := [d1, d2, d3, d4, d5] }
  | _ => none }
def priorityRunsRow : OpenClaim := { program := "ytnaeefefggmomaa", sum := "f3602ccfafc78e347fc9cf5f7c458522c18245af63953ed68f2c96f0da358a9f", func := "netcalculus/netcalculuslaw18.PriorityRuns", spec := "priorityRuns", unfollowed := true, recurses := true, apart := false }
def PriorityRunsSaid : Prop := priorityRunsRow.holds Try.pinned (OpenSpec.ofChange priorityRunsSpec)

/-- ITS FALSE NEIGHBOUR: 'it returns false'. Refute it at one input. -/
def priorityRunsWrong : ChangeSpec := { name := "priorityRuns", fn := fun _ => fun
  | [d1, d2, d3, d4, d5] => { results := [.lit (.bool false)], args := [d1, d2, d3, d4, d5] }
  | _ => none }
def PriorityRunsWrongFalsely : Prop := priorityRunsRow.holds Try.pinned (OpenSpec.ofChange priorityRunsWrong)

/-- 'netcalculuslaw18.PriorityCurves': WHATEVER THE INPUT: true; the input reads as it did. -/
def priorityCurvesSpec : ChangeSpec := { name := "priorityCurves", fn := fun _ => fun
  | [d1, d2, d3, d4, d5] => { results := [.lit (.bool true)], args := [d1, d2, d3, d4, d5] }
  | _ => none }
def priorityCurvesRow : OpenClaim := { program := "ytnaeefefggmomaa", sum := "f3602ccfafc78e347fc9cf5f7c458522c18245af63953ed68f2c96f0da358a9f", func := "netcalculus/netcalculuslaw18.PriorityCurves", spec := "priorityCurves", unfollowed := true, recurses := true, apart := false }
def PriorityCurvesSaid : Prop := priorityCurvesRow.holds Try.pinned (OpenSpec.ofChange priorityCurvesSpec)

/-- ITS FALSE NEIGHBOUR: 'it returns false'. Refute it at one input. -/
def priorityCurvesWrong : ChangeSpec := { name := "priorityCurves", fn := fun _ => fun
  | [d1, d2, d3, d4, d5] => { results := [.lit (.bool false)], args := [d1, d2, d3, d4, d5] }
  | _ => none }
def PriorityCurvesWrongFalsely : Prop := priorityCurvesRow.holds Try.pinned (OpenSpec.ofChange priorityCurvesWrong)

/-- 'netcalculuslaw18.PriorityMonotone': WHATEVER THE INPUT: true; the input reads as it did. -/
def priorityMonotoneSpec : ChangeSpec := { name := "priorityMonotone", fn := fun _ => fun
  | [d] => { results := [.lit (.bool true)], args := [d] }
  | _ => none }
def priorityMonotoneRow : OpenClaim := { program := "ytnaeefefggmomaa", sum := "f3602ccfafc78e347fc9cf5f7c458522c18245af63953ed68f2c96f0da358a9f", func := "netcalculus/netcalculuslaw18.PriorityMonotone", spec := "priorityMonotone", unfollowed := true, recurses := true, apart := false }
def PriorityMonotoneSaid : Prop := priorityMonotoneRow.holds Try.pinned (OpenSpec.ofChange priorityMonotoneSpec)

/-- ITS FALSE NEIGHBOUR: 'it returns false'. Refute it at one input. -/
def priorityMonotoneWrong : ChangeSpec := { name := "priorityMonotone", fn := fun _ => fun
  | [d] => { results := [.lit (.bool false)], args := [d] }
  | _ => none }
def PriorityMonotoneWrongFalsely : Prop := priorityMonotoneRow.holds Try.pinned (OpenSpec.ofChange priorityMonotoneWrong)

/-- 'netcalculuslaw18.PriorityWorks': WHATEVER THE INPUT: true; the input reads as it did. -/
def priorityWorksSpec : ChangeSpec := { name := "priorityWorks", fn := fun _ => fun
  | [d] => { results := [.lit (.bool true)], args := [d] }
  | _ => none }
def priorityWorksRow : OpenClaim := { program := "ytnaeefefggmomaa", sum := "f3602ccfafc78e347fc9cf5f7c458522c18245af63953ed68f2c96f0da358a9f", func := "netcalculus/netcalculuslaw18.PriorityWorks", spec := "priorityWorks", unfollowed := true, recurses := true, apart := false }
def PriorityWorksSaid : Prop := priorityWorksRow.holds Try.pinned (OpenSpec.ofChange priorityWorksSpec)

/-- ITS FALSE NEIGHBOUR: 'it returns false'. Refute it at one input. -/
def priorityWorksWrong : ChangeSpec := { name := "priorityWorks", fn := fun _ => fun
  | [d] => { results := [.lit (.bool false)], args := [d] }
  | _ => none }
def PriorityWorksWrongFalsely : Prop := priorityWorksRow.holds Try.pinned (OpenSpec.ofChange priorityWorksWrong)

/-- 'netcalculuslaw21.SlotsServes': WHATEVER THE INPUT: true; the input reads as it did. -/
def slotsServesSpec : ChangeSpec := { name := "slotsServes", fn := fun _ => fun
  | [d] => { results := [.lit (.bool true)], args := [d] }
  | _ => none }
def slotsServesRow : OpenClaim := { program := "ytnaeefefggmomaa", sum := "f3602ccfafc78e347fc9cf5f7c458522c18245af63953ed68f2c96f0da358a9f", func := "netcalculus/netcalculuslaw21.SlotsServes", spec := "slotsServes", unfollowed := true, recurses := true, apart := false }
def SlotsServesSaid : Prop := slotsServesRow.holds Try.pinned (OpenSpec.ofChange slotsServesSpec)

/-- ITS FALSE NEIGHBOUR: 'it returns false'. Refute it at one input. -/
def slotsServesWrong : ChangeSpec := { name := "slotsServes", fn := fun _ => fun
  | [d] => { results := [.lit (.bool false)], args := [d] }
  | _ => none }
def SlotsServesWrongFalsely : Prop := slotsServesRow.holds Try.pinned (OpenSpec.ofChange slotsServesWrong)

/-- 'netcalculuslaw18.PriorityServes': WHATEVER THE INPUT: true; the input reads as it did. -/
def priorityServesSpec : ChangeSpec := { name := "priorityServes", fn := fun _ => fun
  | [d] => { results := [.lit (.bool true)], args := [d] }
  | _ => none }
def priorityServesRow : OpenClaim := { program := "ytnaeefefggmomaa", sum := "f3602ccfafc78e347fc9cf5f7c458522c18245af63953ed68f2c96f0da358a9f", func := "netcalculus/netcalculuslaw18.PriorityServes", spec := "priorityServes", unfollowed := true, recurses := true, apart := false }
def PriorityServesSaid : Prop := priorityServesRow.holds Try.pinned (OpenSpec.ofChange priorityServesSpec)

/-- ITS FALSE NEIGHBOUR: 'it returns false'. Refute it at one input. -/
def priorityServesWrong : ChangeSpec := { name := "priorityServes", fn := fun _ => fun
  | [d] => { results := [.lit (.bool false)], args := [d] }
  | _ => none }
def PriorityServesWrongFalsely : Prop := priorityServesRow.holds Try.pinned (OpenSpec.ofChange priorityServesWrong)

/-- 'netcalculuslaw16.LineBounds': WHATEVER THE INPUT: true; the input reads as it did. -/
def lineBoundsSpec : ChangeSpec := { name := "lineBounds", fn := fun _ => fun
  | [d] => { results := [.lit (.bool true)], args := [d] }
  | _ => none }
def lineBoundsRow : OpenClaim := { program := "ytnaeefefggmomaa", sum := "f3602ccfafc78e347fc9cf5f7c458522c18245af63953ed68f2c96f0da358a9f", func := "netcalculus/netcalculuslaw16.LineBounds", spec := "lineBounds", unfollowed := true, recurses := true, apart := false }
def LineBoundsSaid : Prop := lineBoundsRow.holds Try.pinned (OpenSpec.ofChange lineBoundsSpec)

/-- ITS FALSE NEIGHBOUR: 'it returns false'. Refute it at one input. -/
def lineBoundsWrong : ChangeSpec := { name := "lineBounds", fn := fun _ => fun
  | [d] => { results := [.lit (.bool false)], args := [d] }
  | _ => none }
def LineBoundsWrongFalsely : Prop := lineBoundsRow.holds Try.pinned (OpenSpec.ofChange lineBoundsWrong)

/- THE SECOND FORM. 'bulk': how many values and letters a reading holds, each counted each time it is reached (what is shared counts as often as it is met; a slice's spare places count too). A statement '..UptoSaid' is the law's where the arguments, and the package variables that the reading takes, are together of bulk at most 1048576: NARROWER than '..Said'. Prove '..Said' where nothing that the law and all that it calls make is longer than what came in: it says more and counts as full. Else prove '..UptoSaid'. A law counts once. -/
mutual
def uptoBulk {H : Type} : DataW H → Nat
  | .lit (.string bytes) => bytes.length + 1
  | .lit _ => 1
  | .nil => 1
  | .ptr d => uptoBulk d + 1
  | .slice elems spare => uptoBulkAll elems + uptoBulkAll spare + 1
  | .agg parts => uptoBulkAll parts + 1
  | .iface _ d => uptoBulk d + 1
  | .map entries => uptoBulkEntries entries + 1
  | .held _ => 1
def uptoBulkAll {H : Type} : List (DataW H) → Nat
  | [] => 0
  | d :: r => uptoBulk d + uptoBulkAll r
def uptoBulkEntries {H : Type} : List (Lit × DataW H) → Nat
  | [] => 0
  | x :: r => uptoBulkEntry x + uptoBulkEntries r
def uptoBulkEntry {H : Type} : Lit × DataW H → Nat
  | (.string bytes, d) => bytes.length + uptoBulk d + 1
  | (_, d) => uptoBulk d + 1
 end
def uptoSmall : (H : Type) → List (DataW H) → Bool := fun _ ds => decide (uptoBulkAll ds ≤ 1048576)
def OpenSpec.upto (s : _root_.Go.ChangeSpec) : _root_.Go.OpenSpec := { _root_.Go.OpenSpec.ofChange s with cond := some uptoSmall }

/-- 'netcalculuslaw21.SlotsRuns', WHERE WHAT IT READS IS OF BULK AT MOST 1048576: true; the input reads as it did. -/
def slotsRunsUptoRow : OpenClaim := { program := "ytnaeefefggmomaa", sum := "f3602ccfafc78e347fc9cf5f7c458522c18245af63953ed68f2c96f0da358a9f", func := "netcalculus/netcalculuslaw21.SlotsRuns", spec := "slotsRuns", unfollowed := true, recurses := true, apart := false, narrowed := true }
def SlotsRunsUptoSaid : Prop := slotsRunsUptoRow.holds Try.pinned (OpenSpec.upto slotsRunsSpec)

/-- 'netcalculuslaw21.SlotsCurves', WHERE WHAT IT READS IS OF BULK AT MOST 1048576: true; the input reads as it did. -/
def slotsCurvesUptoRow : OpenClaim := { program := "ytnaeefefggmomaa", sum := "f3602ccfafc78e347fc9cf5f7c458522c18245af63953ed68f2c96f0da358a9f", func := "netcalculus/netcalculuslaw21.SlotsCurves", spec := "slotsCurves", unfollowed := true, recurses := true, apart := false, narrowed := true }
def SlotsCurvesUptoSaid : Prop := slotsCurvesUptoRow.holds Try.pinned (OpenSpec.upto slotsCurvesSpec)

/-- 'netcalculuslaw21.SlotsApart', WHERE WHAT IT READS IS OF BULK AT MOST 1048576: true; the input reads as it did. -/
def slotsApartUptoRow : OpenClaim := { program := "ytnaeefefggmomaa", sum := "f3602ccfafc78e347fc9cf5f7c458522c18245af63953ed68f2c96f0da358a9f", func := "netcalculus/netcalculuslaw21.SlotsApart", spec := "slotsApart", unfollowed := true, recurses := true, apart := false, narrowed := true }
def SlotsApartUptoSaid : Prop := slotsApartUptoRow.holds Try.pinned (OpenSpec.upto slotsApartSpec)

/-- 'netcalculuslaw21.SlotsMonotone', WHERE WHAT IT READS IS OF BULK AT MOST 1048576: true; the input reads as it did. -/
def slotsMonotoneUptoRow : OpenClaim := { program := "ytnaeefefggmomaa", sum := "f3602ccfafc78e347fc9cf5f7c458522c18245af63953ed68f2c96f0da358a9f", func := "netcalculus/netcalculuslaw21.SlotsMonotone", spec := "slotsMonotone", unfollowed := true, recurses := true, apart := false, narrowed := true }
def SlotsMonotoneUptoSaid : Prop := slotsMonotoneUptoRow.holds Try.pinned (OpenSpec.upto slotsMonotoneSpec)

/-- 'netcalculuslaw21.SlotsWhole', WHERE WHAT IT READS IS OF BULK AT MOST 1048576: true; the input reads as it did. -/
def slotsWholeUptoRow : OpenClaim := { program := "ytnaeefefggmomaa", sum := "f3602ccfafc78e347fc9cf5f7c458522c18245af63953ed68f2c96f0da358a9f", func := "netcalculus/netcalculuslaw21.SlotsWhole", spec := "slotsWhole", unfollowed := true, recurses := true, apart := false, narrowed := true }
def SlotsWholeUptoSaid : Prop := slotsWholeUptoRow.holds Try.pinned (OpenSpec.upto slotsWholeSpec)

/-- 'netcalculuslaw18.PriorityRuns', WHERE WHAT IT READS IS OF BULK AT MOST 1048576: true; the input reads as it did. -/
def priorityRunsUptoRow : OpenClaim := { program := "ytnaeefefggmomaa", sum := "f3602ccfafc78e347fc9cf5f7c458522c18245af63953ed68f2c96f0da358a9f", func := "netcalculus/netcalculuslaw18.PriorityRuns", spec := "priorityRuns", unfollowed := true, recurses := true, apart := false, narrowed := true }
def PriorityRunsUptoSaid : Prop := priorityRunsUptoRow.holds Try.pinned (OpenSpec.upto priorityRunsSpec)

/-- 'netcalculuslaw18.PriorityCurves', WHERE WHAT IT READS IS OF BULK AT MOST 1048576: true; the input reads as it did. -/
def priorityCurvesUptoRow : OpenClaim := { program := "ytnaeefefggmomaa", sum := "f3602ccfafc78e347fc9cf5f7c458522c18245af63953ed68f2c96f0da358a9f", func := "netcalculus/netcalculuslaw18.PriorityCurves", spec := "priorityCurves", unfollowed := true, recurses := true, apart := false, narrowed := true }
def PriorityCurvesUptoSaid : Prop := priorityCurvesUptoRow.holds Try.pinned (OpenSpec.upto priorityCurvesSpec)

/-- 'netcalculuslaw18.PriorityMonotone', WHERE WHAT IT READS IS OF BULK AT MOST 1048576: true; the input reads as it did. -/
def priorityMonotoneUptoRow : OpenClaim := { program := "ytnaeefefggmomaa", sum := "f3602ccfafc78e347fc9cf5f7c458522c18245af63953ed68f2c96f0da358a9f", func := "netcalculus/netcalculuslaw18.PriorityMonotone", spec := "priorityMonotone", unfollowed := true, recurses := true, apart := false, narrowed := true }
def PriorityMonotoneUptoSaid : Prop := priorityMonotoneUptoRow.holds Try.pinned (OpenSpec.upto priorityMonotoneSpec)

/-- 'netcalculuslaw18.PriorityWorks', WHERE WHAT IT READS IS OF BULK AT MOST 1048576: true; the input reads as it did. -/
def priorityWorksUptoRow : OpenClaim := { program := "ytnaeefefggmomaa", sum := "f3602ccfafc78e347fc9cf5f7c458522c18245af63953ed68f2c96f0da358a9f", func := "netcalculus/netcalculuslaw18.PriorityWorks", spec := "priorityWorks", unfollowed := true, recurses := true, apart := false, narrowed := true }
def PriorityWorksUptoSaid : Prop := priorityWorksUptoRow.holds Try.pinned (OpenSpec.upto priorityWorksSpec)

/-- 'netcalculuslaw21.SlotsServes', WHERE WHAT IT READS IS OF BULK AT MOST 1048576: true; the input reads as it did. -/
def slotsServesUptoRow : OpenClaim := { program := "ytnaeefefggmomaa", sum := "f3602ccfafc78e347fc9cf5f7c458522c18245af63953ed68f2c96f0da358a9f", func := "netcalculus/netcalculuslaw21.SlotsServes", spec := "slotsServes", unfollowed := true, recurses := true, apart := false, narrowed := true }
def SlotsServesUptoSaid : Prop := slotsServesUptoRow.holds Try.pinned (OpenSpec.upto slotsServesSpec)

/-- 'netcalculuslaw18.PriorityServes', WHERE WHAT IT READS IS OF BULK AT MOST 1048576: true; the input reads as it did. -/
def priorityServesUptoRow : OpenClaim := { program := "ytnaeefefggmomaa", sum := "f3602ccfafc78e347fc9cf5f7c458522c18245af63953ed68f2c96f0da358a9f", func := "netcalculus/netcalculuslaw18.PriorityServes", spec := "priorityServes", unfollowed := true, recurses := true, apart := false, narrowed := true }
def PriorityServesUptoSaid : Prop := priorityServesUptoRow.holds Try.pinned (OpenSpec.upto priorityServesSpec)

/-- 'netcalculuslaw16.LineBounds', WHERE WHAT IT READS IS OF BULK AT MOST 1048576: true; the input reads as it did. -/
def lineBoundsUptoRow : OpenClaim := { program := "ytnaeefefggmomaa", sum := "f3602ccfafc78e347fc9cf5f7c458522c18245af63953ed68f2c96f0da358a9f", func := "netcalculus/netcalculuslaw16.LineBounds", spec := "lineBounds", unfollowed := true, recurses := true, apart := false, narrowed := true }
def LineBoundsUptoSaid : Prop := lineBoundsUptoRow.holds Try.pinned (OpenSpec.upto lineBoundsSpec)

end Rows
end Go.Proofs.Ytnaeefefggmomaa
