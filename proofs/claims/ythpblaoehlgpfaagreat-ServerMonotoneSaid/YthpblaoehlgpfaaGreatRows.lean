/-
  No cell of these rows narrows 'for every input' (looked for: loops, veiled, ifaces, maps, wideKeys, modest, calm, conditions, laid).
  DERIVED. THE GIVEN ROWS OF THIS SEAT. 5 by the template 'for every input the law returns true; each argument reads behind the call as it read before'; 0 by the template 'total and deterministic' (their statements: YthpblaoehlgpfaaGreatTotals.lean).
  GIVEN WITH THE SEED: the statements are not yours to turn. If you find one false, say at which input.
  Laid BY PROGRAM, IN A SANDBOX (cutbox-rows.mjs): the forced cells as the released guide's own fill.sh prints them over the translation 660dddfe7cf60e5e… (all of the seat's roots in one cut). By AI agents, Wed Nov 11 2026. No macro, syntax, notation, axiom, sorry.
-/
import Derived.Test.YthpblaoehlgpfaaGreatChecked
import GoSem.Claim
import GoSem.ClaimJoined
import GoSem.ClaimMapViews
import Derived.JoinedTies
import Derived.KernelRfl
namespace Go.Proofs.YthpblaoehlgpfaaGreat
/- THE CELL 'sum', in the pinned program and in every row, IS THE sha256 OF THE DUMP (.gsa) THAT YthpblaoehlgpfaaGreatProg.lean LOADS. Nothing in Lean hashes anything: it is a label: what it is worth is what the hold of that sum in a sandbox is worth. -/
noncomputable def Tryz.pinned : Pinned := { name := "ythpblaoehlgpfaagreat", sum := "660dddfe7cf60e5efcd5ef58f2a77aa271f948bb1427cdb20eed0a204a54de33", checked := Tryz.checked }
namespace Rows
def none {H : Type} : Left H := { results := [], args := [] }

/-- 'netcalculuslaw22.ServerServes': WHATEVER THE INPUT: true; the input reads as it did. -/
def serverServesSpec : ChangeSpec := { name := "serverServes", fn := fun _ => fun
  | [d] => { results := [.lit (.bool true)], args := [d] }
  | _ => none }
def serverServesRow : OpenClaim := { program := "ythpblaoehlgpfaagreat", sum := "660dddfe7cf60e5efcd5ef58f2a77aa271f948bb1427cdb20eed0a204a54de33", func := "netcalculus/netcalculuslaw22.ServerServes", spec := "serverServes", unfollowed := true, recurses := true, apart := false }
def ServerServesSaid : Prop := serverServesRow.holds Tryz.pinned (OpenSpec.ofChange serverServesSpec)

/-- ITS FALSE NEIGHBOUR: 'it returns false'. Refute it at one input. -/
def serverServesWrong : ChangeSpec := { name := "serverServes", fn := fun _ => fun
  | [d] => { results := [.lit (.bool false)], args := [d] }
  | _ => none }
def ServerServesWrongFalsely : Prop := serverServesRow.holds Tryz.pinned (OpenSpec.ofChange serverServesWrong)

/-- 'netcalculuslaw22.ServerQueues': WHATEVER THE INPUT: true; the input reads as it did. -/
def serverQueuesSpec : ChangeSpec := { name := "serverQueues", fn := fun _ => fun
  | [d] => { results := [.lit (.bool true)], args := [d] }
  | _ => none }
def serverQueuesRow : OpenClaim := { program := "ythpblaoehlgpfaagreat", sum := "660dddfe7cf60e5efcd5ef58f2a77aa271f948bb1427cdb20eed0a204a54de33", func := "netcalculus/netcalculuslaw22.ServerQueues", spec := "serverQueues", unfollowed := true, recurses := true, apart := false }
def ServerQueuesSaid : Prop := serverQueuesRow.holds Tryz.pinned (OpenSpec.ofChange serverQueuesSpec)

/-- ITS FALSE NEIGHBOUR: 'it returns false'. Refute it at one input. -/
def serverQueuesWrong : ChangeSpec := { name := "serverQueues", fn := fun _ => fun
  | [d] => { results := [.lit (.bool false)], args := [d] }
  | _ => none }
def ServerQueuesWrongFalsely : Prop := serverQueuesRow.holds Tryz.pinned (OpenSpec.ofChange serverQueuesWrong)

/-- 'netcalculuslaw22.ServerMonotone': WHATEVER THE INPUT: true; the input reads as it did. -/
def serverMonotoneSpec : ChangeSpec := { name := "serverMonotone", fn := fun _ => fun
  | [d] => { results := [.lit (.bool true)], args := [d] }
  | _ => none }
def serverMonotoneRow : OpenClaim := { program := "ythpblaoehlgpfaagreat", sum := "660dddfe7cf60e5efcd5ef58f2a77aa271f948bb1427cdb20eed0a204a54de33", func := "netcalculus/netcalculuslaw22.ServerMonotone", spec := "serverMonotone", unfollowed := true, recurses := true, apart := false }
def ServerMonotoneSaid : Prop := serverMonotoneRow.holds Tryz.pinned (OpenSpec.ofChange serverMonotoneSpec)

/-- ITS FALSE NEIGHBOUR: 'it returns false'. Refute it at one input. -/
def serverMonotoneWrong : ChangeSpec := { name := "serverMonotone", fn := fun _ => fun
  | [d] => { results := [.lit (.bool false)], args := [d] }
  | _ => none }
def ServerMonotoneWrongFalsely : Prop := serverMonotoneRow.holds Tryz.pinned (OpenSpec.ofChange serverMonotoneWrong)

/-- 'netcalculuslaw22.ServerRuns': WHATEVER THE INPUT: true; the input reads as it did. -/
def serverRunsSpec : ChangeSpec := { name := "serverRuns", fn := fun _ => fun
  | [d1, d2, d3, d4, d5] => { results := [.lit (.bool true)], args := [d1, d2, d3, d4, d5] }
  | _ => none }
def serverRunsRow : OpenClaim := { program := "ythpblaoehlgpfaagreat", sum := "660dddfe7cf60e5efcd5ef58f2a77aa271f948bb1427cdb20eed0a204a54de33", func := "netcalculus/netcalculuslaw22.ServerRuns", spec := "serverRuns", unfollowed := true, recurses := true, apart := false }
def ServerRunsSaid : Prop := serverRunsRow.holds Tryz.pinned (OpenSpec.ofChange serverRunsSpec)

/-- ITS FALSE NEIGHBOUR: 'it returns false'. Refute it at one input. -/
def serverRunsWrong : ChangeSpec := { name := "serverRuns", fn := fun _ => fun
  | [d1, d2, d3, d4, d5] => { results := [.lit (.bool false)], args := [d1, d2, d3, d4, d5] }
  | _ => none }
def ServerRunsWrongFalsely : Prop := serverRunsRow.holds Tryz.pinned (OpenSpec.ofChange serverRunsWrong)

/-- 'netcalculuslaw22.ServerCurves': WHATEVER THE INPUT: true; the input reads as it did. -/
def serverCurvesSpec : ChangeSpec := { name := "serverCurves", fn := fun _ => fun
  | [d1, d2, d3, d4, d5] => { results := [.lit (.bool true)], args := [d1, d2, d3, d4, d5] }
  | _ => none }
def serverCurvesRow : OpenClaim := { program := "ythpblaoehlgpfaagreat", sum := "660dddfe7cf60e5efcd5ef58f2a77aa271f948bb1427cdb20eed0a204a54de33", func := "netcalculus/netcalculuslaw22.ServerCurves", spec := "serverCurves", unfollowed := true, recurses := true, apart := false }
def ServerCurvesSaid : Prop := serverCurvesRow.holds Tryz.pinned (OpenSpec.ofChange serverCurvesSpec)

/-- ITS FALSE NEIGHBOUR: 'it returns false'. Refute it at one input. -/
def serverCurvesWrong : ChangeSpec := { name := "serverCurves", fn := fun _ => fun
  | [d1, d2, d3, d4, d5] => { results := [.lit (.bool false)], args := [d1, d2, d3, d4, d5] }
  | _ => none }
def ServerCurvesWrongFalsely : Prop := serverCurvesRow.holds Tryz.pinned (OpenSpec.ofChange serverCurvesWrong)

/- THE SECOND FORM. 'bulk': how many values and letters a reading holds, each counted each time it is reached (what is shared counts as often as it is met; a slice's spare places count too). A statement '..UptoSaid' is the law's where the arguments, and the package variables that the reading takes, are together of bulk at most 1048576: NARROWER than '..Said'. Prove '..Said' where nothing that the law and all that it calls make is longer than what came in: it says more and counts as full. Else prove '..UptoSaid'. A law counts once. -/
mutual
def uptoBulk {H : Type} : DataW H → Nat
  | .lit (.string bytes) => bytes.length + 1
  | .lit _ => 1
  | .nil => 1
  | .ptr d => uptoBulk d + 1
  | .slice elems spare => uptoBulkAll elems + uptoBulkAll spare + 1
  | .agg parts => uptoBulkAll parts + 1
  | .iface _ d => uptoBulk d + 1
  | .map entries => uptoBulkEntries entries + 1
  | .held _ => 1
def uptoBulkAll {H : Type} : List (DataW H) → Nat
  | [] => 0
  | d :: r => uptoBulk d + uptoBulkAll r
def uptoBulkEntries {H : Type} : List (Lit × DataW H) → Nat
  | [] => 0
  | x :: r => uptoBulkEntry x + uptoBulkEntries r
def uptoBulkEntry {H : Type} : Lit × DataW H → Nat
  | (.string bytes, d) => bytes.length + uptoBulk d + 1
  | (_, d) => uptoBulk d + 1
 end
def uptoSmall : (H : Type) → List (DataW H) → Bool := fun _ ds => decide (uptoBulkAll ds ≤ 1048576)
def OpenSpec.upto (s : _root_.Go.ChangeSpec) : _root_.Go.OpenSpec := { _root_.Go.OpenSpec.ofChange s with cond := some uptoSmall }

/-- 'netcalculuslaw22.ServerServes', WHERE WHAT IT READS IS OF BULK AT MOST 1048576: true; the input reads as it did. -/
def serverServesUptoRow : OpenClaim := { program := "ythpblaoehlgpfaagreat", sum := "660dddfe7cf60e5efcd5ef58f2a77aa271f948bb1427cdb20eed0a204a54de33", func := "netcalculus/netcalculuslaw22.ServerServes", spec := "serverServes", unfollowed := true, recurses := true, apart := false, narrowed := true }
def ServerServesUptoSaid : Prop := serverServesUptoRow.holds Tryz.pinned (OpenSpec.upto serverServesSpec)

/-- 'netcalculuslaw22.ServerQueues', WHERE WHAT IT READS IS OF BULK AT MOST 1048576: true; the input reads as it did. -/
def serverQueuesUptoRow : OpenClaim := { program := "ythpblaoehlgpfaagreat", sum := "660dddfe7cf60e5efcd5ef58f2a77aa271f948bb1427cdb20eed0a204a54de33", func := "netcalculus/netcalculuslaw22.ServerQueues", spec := "serverQueues", unfollowed := true, recurses := true, apart := false, narrowed := true }
def ServerQueuesUptoSaid : Prop := serverQueuesUptoRow.holds Tryz.pinned (OpenSpec.upto serverQueuesSpec)

/-- 'netcalculuslaw22.ServerMonotone', WHERE WHAT IT READS IS OF BULK AT MOST 1048576: true; the input reads as it did. -/
def serverMonotoneUptoRow : OpenClaim := { program := "ythpblaoehlgpfaagreat", sum := "660dddfe7cf60e5efcd5ef58f2a77aa271f948bb1427cdb20eed0a204a54de33", func := "netcalculus/netcalculuslaw22.ServerMonotone", spec := "serverMonotone", unfollowed := true, recurses := true, apart := false, narrowed := true }
def ServerMonotoneUptoSaid : Prop := serverMonotoneUptoRow.holds Tryz.pinned (OpenSpec.upto serverMonotoneSpec)

/-- 'netcalculuslaw22.ServerRuns', WHERE WHAT IT READS IS OF BULK AT MOST 1048576: true; the input reads as it did. -/
def serverRunsUptoRow : OpenClaim := { program := "ythpblaoehlgpfaagreat", sum := "660dddfe7cf60e5efcd5ef58f2a77aa271f948bb1427cdb20eed0a204a54de33", func := "netcalculus/netcalculuslaw22.ServerRuns", spec := "serverRuns", unfollowed := true, recurses := true, apart := false, narrowed := true }
def ServerRunsUptoSaid : Prop := serverRunsUptoRow.holds Tryz.pinned (OpenSpec.upto serverRunsSpec)

/-- 'netcalculuslaw22.ServerCurves', WHERE WHAT IT READS IS OF BULK AT MOST 1048576: true; the input reads as it did. -/
def serverCurvesUptoRow : OpenClaim := { program := "ythpblaoehlgpfaagreat", sum := "660dddfe7cf60e5efcd5ef58f2a77aa271f948bb1427cdb20eed0a204a54de33", func := "netcalculus/netcalculuslaw22.ServerCurves", spec := "serverCurves", unfollowed := true, recurses := true, apart := false, narrowed := true }
def ServerCurvesUptoSaid : Prop := serverCurvesUptoRow.holds Tryz.pinned (OpenSpec.upto serverCurvesSpec)

end Rows
end Go.Proofs.YthpblaoehlgpfaaGreat
