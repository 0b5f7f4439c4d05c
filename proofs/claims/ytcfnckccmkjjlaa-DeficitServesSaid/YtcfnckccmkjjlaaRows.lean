/-
  No cell of these rows narrows 'for every input' (looked for: loops, veiled, ifaces, maps, wideKeys, modest, calm, conditions, laid).
  DERIVED. THE GIVEN ROWS OF THIS SEAT. 12 by the template 'for every input the law returns true; each argument reads behind the call as it read before'; 0 by the template 'total and deterministic' (their statements: YtcfnckccmkjjlaaTotals.lean).
  GIVEN WITH THE SEED: the statements are not yours to turn. If you find one false, say at which input.
  Laid BY PROGRAM, IN A SANDBOX (cutbox-rows.mjs): the forced cells as the released guide's own fill.sh prints them over the translation bde0fe6908d959ed… (all of the seat's roots in one cut). By AI agents, Wed Nov 11 2026. No macro, syntax, notation, axiom, sorry.
-/
import Derived.Test.YtcfnckccmkjjlaaChecked
import GoSem.Claim
import GoSem.ClaimJoined
import GoSem.ClaimMapViews
import Derived.JoinedTies
import Derived.KernelRfl
namespace Go.Proofs.Ytcfnckccmkjjlaa
/- THE CELL 'sum', in the pinned program and in every row, IS THE sha256 OF THE DUMP (.gsa) THAT YtcfnckccmkjjlaaProg.lean LOADS. Nothing in Lean hashes anything: it is a label: what it is worth is what the hold of that sum in a sandbox is worth. -/
noncomputable def Try.pinned : Pinned := { name := "ytcfnckccmkjjlaa", sum := "bde0fe6908d959ed8e6e9440c353c4e63059239e7668734638e5528ab98d2200", checked := Try.checked }
namespace Rows
def none {H : Type} : Left H := { results := [], args := [] }

/-- 'netcalculuslaw19.RobinRuns': WHATEVER THE INPUT: true; the input reads as it did. -/
def robinRunsSpec : ChangeSpec := { name := "robinRuns", fn := fun _ => fun
  | [d1, d2, d3, d4, d5] => { results := [.lit (.bool true)], args := [d1, d2, d3, d4, d5] }
  | _ => none }
def robinRunsRow : OpenClaim := { program := "ytcfnckccmkjjlaa", sum := "bde0fe6908d959ed8e6e9440c353c4e63059239e7668734638e5528ab98d2200", func := "netcalculus/netcalculuslaw19.RobinRuns", spec := "robinRuns", unfollowed := true, recurses := true, apart := false }
def RobinRunsSaid : Prop := robinRunsRow.holds Try.pinned (OpenSpec.ofChange robinRunsSpec)

/-- ITS FALSE NEIGHBOUR: 'it returns false'. Refute it at one input. -/
def robinRunsWrong : ChangeSpec := { name := "robinRuns", fn := fun _ => fun
  | [d1, d2, d3, d4, d5] => { results := [.lit (.bool false)], args := [d1, d2, d3, d4, d5] }
  | _ => none }
def RobinRunsWrongFalsely : Prop := robinRunsRow.holds Try.pinned (OpenSpec.ofChange robinRunsWrong)

/-- 'netcalculuslaw19.RobinCurves': WHATEVER THE INPUT: true; the input reads as it did. -/
def robinCurvesSpec : ChangeSpec := { name := "robinCurves", fn := fun _ => fun
  | [d1, d2, d3, d4, d5, d6] => { results := [.lit (.bool true)], args := [d1, d2, d3, d4, d5, d6] }
  | _ => none }
def robinCurvesRow : OpenClaim := { program := "ytcfnckccmkjjlaa", sum := "bde0fe6908d959ed8e6e9440c353c4e63059239e7668734638e5528ab98d2200", func := "netcalculus/netcalculuslaw19.RobinCurves", spec := "robinCurves", unfollowed := true, recurses := true, apart := false }
def RobinCurvesSaid : Prop := robinCurvesRow.holds Try.pinned (OpenSpec.ofChange robinCurvesSpec)

/-- ITS FALSE NEIGHBOUR: 'it returns false'. Refute it at one input. -/
def robinCurvesWrong : ChangeSpec := { name := "robinCurves", fn := fun _ => fun
  | [d1, d2, d3, d4, d5, d6] => { results := [.lit (.bool false)], args := [d1, d2, d3, d4, d5, d6] }
  | _ => none }
def RobinCurvesWrongFalsely : Prop := robinCurvesRow.holds Try.pinned (OpenSpec.ofChange robinCurvesWrong)

/-- 'netcalculuslaw19.RobinShares': WHATEVER THE INPUT: true; the input reads as it did. -/
def robinSharesSpec : ChangeSpec := { name := "robinShares", fn := fun _ => fun
  | [d] => { results := [.lit (.bool true)], args := [d] }
  | _ => none }
def robinSharesRow : OpenClaim := { program := "ytcfnckccmkjjlaa", sum := "bde0fe6908d959ed8e6e9440c353c4e63059239e7668734638e5528ab98d2200", func := "netcalculus/netcalculuslaw19.RobinShares", spec := "robinShares", unfollowed := true, recurses := true, apart := false }
def RobinSharesSaid : Prop := robinSharesRow.holds Try.pinned (OpenSpec.ofChange robinSharesSpec)

/-- ITS FALSE NEIGHBOUR: 'it returns false'. Refute it at one input. -/
def robinSharesWrong : ChangeSpec := { name := "robinShares", fn := fun _ => fun
  | [d] => { results := [.lit (.bool false)], args := [d] }
  | _ => none }
def RobinSharesWrongFalsely : Prop := robinSharesRow.holds Try.pinned (OpenSpec.ofChange robinSharesWrong)

/-- 'netcalculuslaw19.RobinMonotone': WHATEVER THE INPUT: true; the input reads as it did. -/
def robinMonotoneSpec : ChangeSpec := { name := "robinMonotone", fn := fun _ => fun
  | [d] => { results := [.lit (.bool true)], args := [d] }
  | _ => none }
def robinMonotoneRow : OpenClaim := { program := "ytcfnckccmkjjlaa", sum := "bde0fe6908d959ed8e6e9440c353c4e63059239e7668734638e5528ab98d2200", func := "netcalculus/netcalculuslaw19.RobinMonotone", spec := "robinMonotone", unfollowed := true, recurses := true, apart := false }
def RobinMonotoneSaid : Prop := robinMonotoneRow.holds Try.pinned (OpenSpec.ofChange robinMonotoneSpec)

/-- ITS FALSE NEIGHBOUR: 'it returns false'. Refute it at one input. -/
def robinMonotoneWrong : ChangeSpec := { name := "robinMonotone", fn := fun _ => fun
  | [d] => { results := [.lit (.bool false)], args := [d] }
  | _ => none }
def RobinMonotoneWrongFalsely : Prop := robinMonotoneRow.holds Try.pinned (OpenSpec.ofChange robinMonotoneWrong)

/-- 'netcalculuslaw19.RobinWorks': WHATEVER THE INPUT: true; the input reads as it did. -/
def robinWorksSpec : ChangeSpec := { name := "robinWorks", fn := fun _ => fun
  | [d] => { results := [.lit (.bool true)], args := [d] }
  | _ => none }
def robinWorksRow : OpenClaim := { program := "ytcfnckccmkjjlaa", sum := "bde0fe6908d959ed8e6e9440c353c4e63059239e7668734638e5528ab98d2200", func := "netcalculus/netcalculuslaw19.RobinWorks", spec := "robinWorks", unfollowed := true, recurses := true, apart := false }
def RobinWorksSaid : Prop := robinWorksRow.holds Try.pinned (OpenSpec.ofChange robinWorksSpec)

/-- ITS FALSE NEIGHBOUR: 'it returns false'. Refute it at one input. -/
def robinWorksWrong : ChangeSpec := { name := "robinWorks", fn := fun _ => fun
  | [d] => { results := [.lit (.bool false)], args := [d] }
  | _ => none }
def RobinWorksWrongFalsely : Prop := robinWorksRow.holds Try.pinned (OpenSpec.ofChange robinWorksWrong)

/-- 'netcalculuslaw20.DeficitRuns': WHATEVER THE INPUT: true; the input reads as it did. -/
def deficitRunsSpec : ChangeSpec := { name := "deficitRuns", fn := fun _ => fun
  | [d1, d2, d3, d4, d5] => { results := [.lit (.bool true)], args := [d1, d2, d3, d4, d5] }
  | _ => none }
def deficitRunsRow : OpenClaim := { program := "ytcfnckccmkjjlaa", sum := "bde0fe6908d959ed8e6e9440c353c4e63059239e7668734638e5528ab98d2200", func := "netcalculus/netcalculuslaw20.DeficitRuns", spec := "deficitRuns", unfollowed := true, recurses := true, apart := false }
def DeficitRunsSaid : Prop := deficitRunsRow.holds Try.pinned (OpenSpec.ofChange deficitRunsSpec)

/-- ITS FALSE NEIGHBOUR: 'it returns false'. Refute it at one input. -/
def deficitRunsWrong : ChangeSpec := { name := "deficitRuns", fn := fun _ => fun
  | [d1, d2, d3, d4, d5] => { results := [.lit (.bool false)], args := [d1, d2, d3, d4, d5] }
  | _ => none }
def DeficitRunsWrongFalsely : Prop := deficitRunsRow.holds Try.pinned (OpenSpec.ofChange deficitRunsWrong)

/-- 'netcalculuslaw20.DeficitCurves': WHATEVER THE INPUT: true; the input reads as it did. -/
def deficitCurvesSpec : ChangeSpec := { name := "deficitCurves", fn := fun _ => fun
  | [d1, d2, d3, d4, d5, d6] => { results := [.lit (.bool true)], args := [d1, d2, d3, d4, d5, d6] }
  | _ => none }
def deficitCurvesRow : OpenClaim := { program := "ytcfnckccmkjjlaa", sum := "bde0fe6908d959ed8e6e9440c353c4e63059239e7668734638e5528ab98d2200", func := "netcalculus/netcalculuslaw20.DeficitCurves", spec := "deficitCurves", unfollowed := true, recurses := true, apart := false }
def DeficitCurvesSaid : Prop := deficitCurvesRow.holds Try.pinned (OpenSpec.ofChange deficitCurvesSpec)

/-- ITS FALSE NEIGHBOUR: 'it returns false'. Refute it at one input. -/
def deficitCurvesWrong : ChangeSpec := { name := "deficitCurves", fn := fun _ => fun
  | [d1, d2, d3, d4, d5, d6] => { results := [.lit (.bool false)], args := [d1, d2, d3, d4, d5, d6] }
  | _ => none }
def DeficitCurvesWrongFalsely : Prop := deficitCurvesRow.holds Try.pinned (OpenSpec.ofChange deficitCurvesWrong)

/-- 'netcalculuslaw20.DeficitShares': WHATEVER THE INPUT: true; the input reads as it did. -/
def deficitSharesSpec : ChangeSpec := { name := "deficitShares", fn := fun _ => fun
  | [d] => { results := [.lit (.bool true)], args := [d] }
  | _ => none }
def deficitSharesRow : OpenClaim := { program := "ytcfnckccmkjjlaa", sum := "bde0fe6908d959ed8e6e9440c353c4e63059239e7668734638e5528ab98d2200", func := "netcalculus/netcalculuslaw20.DeficitShares", spec := "deficitShares", unfollowed := true, recurses := true, apart := false }
def DeficitSharesSaid : Prop := deficitSharesRow.holds Try.pinned (OpenSpec.ofChange deficitSharesSpec)

/-- ITS FALSE NEIGHBOUR: 'it returns false'. Refute it at one input. -/
def deficitSharesWrong : ChangeSpec := { name := "deficitShares", fn := fun _ => fun
  | [d] => { results := [.lit (.bool false)], args := [d] }
  | _ => none }
def DeficitSharesWrongFalsely : Prop := deficitSharesRow.holds Try.pinned (OpenSpec.ofChange deficitSharesWrong)

/-- 'netcalculuslaw20.DeficitMonotone': WHATEVER THE INPUT: true; the input reads as it did. -/
def deficitMonotoneSpec : ChangeSpec := { name := "deficitMonotone", fn := fun _ => fun
  | [d] => { results := [.lit (.bool true)], args := [d] }
  | _ => none }
def deficitMonotoneRow : OpenClaim := { program := "ytcfnckccmkjjlaa", sum := "bde0fe6908d959ed8e6e9440c353c4e63059239e7668734638e5528ab98d2200", func := "netcalculus/netcalculuslaw20.DeficitMonotone", spec := "deficitMonotone", unfollowed := true, recurses := true, apart := false }
def DeficitMonotoneSaid : Prop := deficitMonotoneRow.holds Try.pinned (OpenSpec.ofChange deficitMonotoneSpec)

/-- ITS FALSE NEIGHBOUR: 'it returns false'. Refute it at one input. -/
def deficitMonotoneWrong : ChangeSpec := { name := "deficitMonotone", fn := fun _ => fun
  | [d] => { results := [.lit (.bool false)], args := [d] }
  | _ => none }
def DeficitMonotoneWrongFalsely : Prop := deficitMonotoneRow.holds Try.pinned (OpenSpec.ofChange deficitMonotoneWrong)

/-- 'netcalculuslaw20.DeficitWorks': WHATEVER THE INPUT: true; the input reads as it did. -/
def deficitWorksSpec : ChangeSpec := { name := "deficitWorks", fn := fun _ => fun
  | [d] => { results := [.lit (.bool true)], args := [d] }
  | _ => none }
def deficitWorksRow : OpenClaim := { program := "ytcfnckccmkjjlaa", sum := "bde0fe6908d959ed8e6e9440c353c4e63059239e7668734638e5528ab98d2200", func := "netcalculus/netcalculuslaw20.DeficitWorks", spec := "deficitWorks", unfollowed := true, recurses := true, apart := false }
def DeficitWorksSaid : Prop := deficitWorksRow.holds Try.pinned (OpenSpec.ofChange deficitWorksSpec)

/-- ITS FALSE NEIGHBOUR: 'it returns false'. Refute it at one input. -/
def deficitWorksWrong : ChangeSpec := { name := "deficitWorks", fn := fun _ => fun
  | [d] => { results := [.lit (.bool false)], args := [d] }
  | _ => none }
def DeficitWorksWrongFalsely : Prop := deficitWorksRow.holds Try.pinned (OpenSpec.ofChange deficitWorksWrong)

/-- 'netcalculuslaw19.RobinServes': WHATEVER THE INPUT: true; the input reads as it did. -/
def robinServesSpec : ChangeSpec := { name := "robinServes", fn := fun _ => fun
  | [d] => { results := [.lit (.bool true)], args := [d] }
  | _ => none }
def robinServesRow : OpenClaim := { program := "ytcfnckccmkjjlaa", sum := "bde0fe6908d959ed8e6e9440c353c4e63059239e7668734638e5528ab98d2200", func := "netcalculus/netcalculuslaw19.RobinServes", spec := "robinServes", unfollowed := true, recurses := true, apart := false }
def RobinServesSaid : Prop := robinServesRow.holds Try.pinned (OpenSpec.ofChange robinServesSpec)

/-- ITS FALSE NEIGHBOUR: 'it returns false'. Refute it at one input. -/
def robinServesWrong : ChangeSpec := { name := "robinServes", fn := fun _ => fun
  | [d] => { results := [.lit (.bool false)], args := [d] }
  | _ => none }
def RobinServesWrongFalsely : Prop := robinServesRow.holds Try.pinned (OpenSpec.ofChange robinServesWrong)

/-- 'netcalculuslaw20.DeficitServes': WHATEVER THE INPUT: true; the input reads as it did. -/
def deficitServesSpec : ChangeSpec := { name := "deficitServes", fn := fun _ => fun
  | [d] => { results := [.lit (.bool true)], args := [d] }
  | _ => none }
def deficitServesRow : OpenClaim := { program := "ytcfnckccmkjjlaa", sum := "bde0fe6908d959ed8e6e9440c353c4e63059239e7668734638e5528ab98d2200", func := "netcalculus/netcalculuslaw20.DeficitServes", spec := "deficitServes", unfollowed := true, recurses := true, apart := false }
def DeficitServesSaid : Prop := deficitServesRow.holds Try.pinned (OpenSpec.ofChange deficitServesSpec)

/-- ITS FALSE NEIGHBOUR: 'it returns false'. Refute it at one input. -/
def deficitServesWrong : ChangeSpec := { name := "deficitServes", fn := fun _ => fun
  | [d] => { results := [.lit (.bool false)], args := [d] }
  | _ => none }
def DeficitServesWrongFalsely : Prop := deficitServesRow.holds Try.pinned (OpenSpec.ofChange deficitServesWrong)

/- THE SECOND FORM. 'bulk': how many values and letters a reading holds, each counted each time it is reached (what is shared counts as often as it is met; a slice's spare places count too). A statement '..UptoSaid' is the law's where the arguments, and the package variables that the reading takes, are together of bulk at most 1048576: NARROWER than '..Said'. Prove '..Said' where nothing that the law and all that it calls make is longer than what came in: it says more and counts as full. Else prove '..UptoSaid'. A law counts once. -/
mutual
def uptoBulk {H : Type} : DataW H → Nat
  | .lit (.string bytes) => bytes.length + 1
  | .lit _ => 1
  | .nil => 1
  | .ptr d => uptoBulk d + 1
  | .slice elems spare => uptoBulkAll elems + uptoBulkAll spare + 1
  | .agg parts => uptoBulkAll parts + 1
  | .iface _ d => uptoBulk d + 1
  | .map entries => uptoBulkEntries entries + 1
  | .held _ => 1
def uptoBulkAll {H : Type} : List (DataW H) → Nat
  | [] => 0
  | d :: r => uptoBulk d + uptoBulkAll r
def uptoBulkEntries {H : Type} : List (Lit × DataW H) → Nat
  | [] => 0
  | x :: r => uptoBulkEntry x + uptoBulkEntries r
def uptoBulkEntry {H : Type} : Lit × DataW H → Nat
  | (.string bytes, d) => bytes.length + uptoBulk d + 1
  | (_, d) => uptoBulk d + 1
 end
def uptoSmall : (H : Type) → List (DataW H) → Bool := fun _ ds => decide (uptoBulkAll ds ≤ 1048576)
def OpenSpec.upto (s : _root_.Go.ChangeSpec) : _root_.Go.OpenSpec := { _root_.Go.OpenSpec.ofChange s with cond := some uptoSmall }

/-- 'netcalculuslaw19.RobinRuns', WHERE WHAT IT READS IS OF BULK AT MOST 1048576: true; the input reads as it did. -/
def robinRunsUptoRow : OpenClaim := { program := "ytcfnckccmkjjlaa", sum := "bde0fe6908d959ed8e6e9440c353c4e63059239e7668734638e5528ab98d2200", func := "netcalculus/netcalculuslaw19.RobinRuns", spec := "robinRuns", unfollowed := true, recurses := true, apart := false, narrowed := true }
def RobinRunsUptoSaid : Prop := robinRunsUptoRow.holds Try.pinned (OpenSpec.upto robinRunsSpec)

/-- 'netcalculuslaw19.RobinCurves', WHERE WHAT IT READS IS OF BULK AT MOST 1048576: true; the input reads as it did. -/
def robinCurvesUptoRow : OpenClaim := { program := "ytcfnckccmkjjlaa", sum := "bde0fe6908d959ed8e6e9440c353c4e63059239e7668734638e5528ab98d2200", func := "netcalculus/netcalculuslaw19.RobinCurves", spec := "robinCurves", unfollowed := true, recurses := true, apart := false, narrowed := true }
def RobinCurvesUptoSaid : Prop := robinCurvesUptoRow.holds Try.pinned (OpenSpec.upto robinCurvesSpec)

/-- 'netcalculuslaw19.RobinShares', WHERE WHAT IT READS IS OF BULK AT MOST 1048576: true; the input reads as it did. -/
def robinSharesUptoRow : OpenClaim := { program := "ytcfnckccmkjjlaa", sum := "bde0fe6908d959ed8e6e9440c353c4e63059239e7668734638e5528ab98d2200", func := "netcalculus/netcalculuslaw19.RobinShares", spec := "robinShares", unfollowed := true, recurses := true, apart := false, narrowed := true }
def RobinSharesUptoSaid : Prop := robinSharesUptoRow.holds Try.pinned (OpenSpec.upto robinSharesSpec)

/-- 'netcalculuslaw19.RobinMonotone', WHERE WHAT IT READS IS OF BULK AT MOST 1048576: true; the input reads as it did. -/
def robinMonotoneUptoRow : OpenClaim := { program := "ytcfnckccmkjjlaa", sum := "bde0fe6908d959ed8e6e9440c353c4e63059239e7668734638e5528ab98d2200", func := "netcalculus/netcalculuslaw19.RobinMonotone", spec := "robinMonotone", unfollowed := true, recurses := true, apart := false, narrowed := true }
def RobinMonotoneUptoSaid : Prop := robinMonotoneUptoRow.holds Try.pinned (OpenSpec.upto robinMonotoneSpec)

/-- 'netcalculuslaw19.RobinWorks', WHERE WHAT IT READS IS OF BULK AT MOST 1048576: true; the input reads as it did. -/
def robinWorksUptoRow : OpenClaim := { program := "ytcfnckccmkjjlaa", sum := "bde0fe6908d959ed8e6e9440c353c4e63059239e7668734638e5528ab98d2200", func := "netcalculus/netcalculuslaw19.RobinWorks", spec := "robinWorks", unfollowed := true, recurses := true, apart := false, narrowed := true }
def RobinWorksUptoSaid : Prop := robinWorksUptoRow.holds Try.pinned (OpenSpec.upto robinWorksSpec)

/-- 'netcalculuslaw20.DeficitRuns', WHERE WHAT IT READS IS OF BULK AT MOST 1048576: true; the input reads as it did. -/
def deficitRunsUptoRow : OpenClaim := { program := "ytcfnckccmkjjlaa", sum := "bde0fe6908d959ed8e6e9440c353c4e63059239e7668734638e5528ab98d2200", func := "netcalculus/netcalculuslaw20.DeficitRuns", spec := "deficitRuns", unfollowed := true, recurses := true, apart := false, narrowed := true }
def DeficitRunsUptoSaid : Prop := deficitRunsUptoRow.holds Try.pinned (OpenSpec.upto deficitRunsSpec)

/-- 'netcalculuslaw20.DeficitCurves', WHERE WHAT IT READS IS OF BULK AT MOST 1048576: true; the input reads as it did. -/
def deficitCurvesUptoRow : OpenClaim := { program := "ytcfnckccmkjjlaa", sum := "bde0fe6908d959ed8e6e9440c353c4e63059239e7668734638e5528ab98d2200", func := "netcalculus/netcalculuslaw20.DeficitCurves", spec := "deficitCurves", unfollowed := true, recurses := true, apart := false, narrowed := true }
def DeficitCurvesUptoSaid : Prop := deficitCurvesUptoRow.holds Try.pinned (OpenSpec.upto deficitCurvesSpec)

/-- 'netcalculuslaw20.DeficitShares', WHERE WHAT IT READS IS OF BULK AT MOST 1048576: true; the input reads as it did. -/
def deficitSharesUptoRow : OpenClaim := { program := "ytcfnckccmkjjlaa", sum := "bde0fe6908d959ed8e6e9440c353c4e63059239e7668734638e5528ab98d2200", func := "netcalculus/netcalculuslaw20.DeficitShares", spec := "deficitShares", unfollowed := true, recurses := true, apart := false, narrowed := true }
def DeficitSharesUptoSaid : Prop := deficitSharesUptoRow.holds Try.pinned (OpenSpec.upto deficitSharesSpec)

/-- 'netcalculuslaw20.DeficitMonotone', WHERE WHAT IT READS IS OF BULK AT MOST 1048576: true; the input reads as it did. -/
def deficitMonotoneUptoRow : OpenClaim := { program := "ytcfnckccmkjjlaa", sum := "bde0fe6908d959ed8e6e9440c353c4e63059239e7668734638e5528ab98d2200", func := "netcalculus/netcalculuslaw20.DeficitMonotone", spec := "deficitMonotone", unfollowed := true, recurses := true, apart := false, narrowed := true }
def DeficitMonotoneUptoSaid : Prop := deficitMonotoneUptoRow.holds Try.pinned (OpenSpec.upto deficitMonotoneSpec)

/-- 'netcalculuslaw20.DeficitWorks', WHERE WHAT IT READS IS OF BULK AT MOST 1048576: true; the input reads as it did. -/
def deficitWorksUptoRow : OpenClaim := { program := "ytcfnckccmkjjlaa", sum := "bde0fe6908d959ed8e6e9440c353c4e63059239e7668734638e5528ab98d2200", func := "netcalculus/netcalculuslaw20.DeficitWorks", spec := "deficitWorks", unfollowed := true, recurses := true, apart := false, narrowed := true }
def DeficitWorksUptoSaid : Prop := deficitWorksUptoRow.holds Try.pinned (OpenSpec.upto deficitWorksSpec)

/-- 'netcalculuslaw19.RobinServes', WHERE WHAT IT READS IS OF BULK AT MOST 1048576: true; the input reads as it did. -/
def robinServesUptoRow : OpenClaim := { program := "ytcfnckccmkjjlaa", sum := "bde0fe6908d959ed8e6e9440c353c4e63059239e7668734638e5528ab98d2200", func := "netcalculus/netcalculuslaw19.RobinServes", spec := "robinServes", unfollowed := true, recurses := true, apart := false, narrowed := true }
def RobinServesUptoSaid : Prop := robinServesUptoRow.holds Try.pinned (OpenSpec.upto robinServesSpec)

/-- 'netcalculuslaw20.DeficitServes', WHERE WHAT IT READS IS OF BULK AT MOST 1048576: true; the input reads as it did. -/
def deficitServesUptoRow : OpenClaim := { program := "ytcfnckccmkjjlaa", sum := "bde0fe6908d959ed8e6e9440c353c4e63059239e7668734638e5528ab98d2200", func := "netcalculus/netcalculuslaw20.DeficitServes", spec := "deficitServes", unfollowed := true, recurses := true, apart := false, narrowed := true }
def DeficitServesUptoSaid : Prop := deficitServesUptoRow.holds Try.pinned (OpenSpec.upto deficitServesSpec)

end Rows
end Go.Proofs.Ytcfnckccmkjjlaa
