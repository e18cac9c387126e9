/-
  No cell of these rows narrows 'for every input' (looked for: loops, veiled, ifaces, maps, wideKeys, modest, calm, conditions, laid).
  DERIVED. THE GIVEN ROWS OF THIS SEAT. 14 by the template 'for every input the law returns true; each argument reads behind the call as it read before'; 0 by the template 'total and deterministic' (their statements: YtemihhkbieplmaaTotals.lean).
  GIVEN WITH THE SEED: the statements are not yours to turn. If you find one false, say at which input.
  Laid BY PROGRAM, IN A SANDBOX (cutbox-rows.mjs): the forced cells as the released guide's own fill.sh prints them over the translation 06dbd96a8b1cb98d… (all of the seat's roots in one cut). By AI agents, Wed Nov 11 2026. No macro, syntax, notation, axiom, sorry.
-/
import Derived.Test.YtemihhkbieplmaaChecked
import GoSem.Claim
import GoSem.ClaimJoined
import GoSem.ClaimMapViews
import Derived.JoinedTies
import Derived.KernelRfl
namespace Go.Proofs.Ytemihhkbieplmaa
/- THE CELL 'sum', in the pinned program and in every row, IS THE sha256 OF THE DUMP (.gsa) THAT YtemihhkbieplmaaProg.lean LOADS. Nothing in Lean hashes anything: it is a label: what it is worth is what the hold of that sum in a sandbox is worth. -/
noncomputable def Try.pinned : Pinned := { name := "ytemihhkbieplmaa", sum := "06dbd96a8b1cb98df022828d6978078cdf9844b698e06082d4f9fdd119d2c576", checked := Try.checked }
namespace Rows
def none {H : Type} : Left H := { results := [], args := [] }

/-- 'cobblelaw06.RollPeriodic': WHATEVER THE INPUT: true; the input reads as it did. -/
def rollPeriodicSpec : ChangeSpec := { name := "rollPeriodic", fn := fun _ => fun
  | [d1, d2] => { results := [.lit (.bool true)], args := [d1, d2] }
  | _ => none }
def rollPeriodicRow : OpenClaim := { program := "ytemihhkbieplmaa", sum := "06dbd96a8b1cb98df022828d6978078cdf9844b698e06082d4f9fdd119d2c576", func := "cobble/cobblelaw06.RollPeriodic", spec := "rollPeriodic", unfollowed := true, recurses := true, apart := false }
def RollPeriodicSaid : Prop := rollPeriodicRow.holds Try.pinned (OpenSpec.ofChange rollPeriodicSpec)

/-- ITS FALSE NEIGHBOUR: 'it returns false'. Refute it at one input. -/
def rollPeriodicWrong : ChangeSpec := { name := "rollPeriodic", fn := fun _ => fun
  | [d1, d2] => { results := [.lit (.bool false)], args := [d1, d2] }
  | _ => none }
def RollPeriodicWrongFalsely : Prop := rollPeriodicRow.holds Try.pinned (OpenSpec.ofChange rollPeriodicWrong)

/-- 'cobblelaw06.RollCancels': WHATEVER THE INPUT: true; the input reads as it did. -/
def rollCancelsSpec : ChangeSpec := { name := "rollCancels", fn := fun _ => fun
  | [d1, d2, d3] => { results := [.lit (.bool true)], args := [d1, d2, d3] }
  | _ => none }
def rollCancelsRow : OpenClaim := { program := "ytemihhkbieplmaa", sum := "06dbd96a8b1cb98df022828d6978078cdf9844b698e06082d4f9fdd119d2c576", func := "cobble/cobblelaw06.RollCancels", spec := "rollCancels", unfollowed := true, recurses := true, apart := false }
def RollCancelsSaid : Prop := rollCancelsRow.holds Try.pinned (OpenSpec.ofChange rollCancelsSpec)

/-- ITS FALSE NEIGHBOUR: 'it returns false'. Refute it at one input. -/
def rollCancelsWrong : ChangeSpec := { name := "rollCancels", fn := fun _ => fun
  | [d1, d2, d3] => { results := [.lit (.bool false)], args := [d1, d2, d3] }
  | _ => none }
def RollCancelsWrongFalsely : Prop := rollCancelsRow.holds Try.pinned (OpenSpec.ofChange rollCancelsWrong)

/-- 'cobblelaw06.RollAmplitudes': WHATEVER THE INPUT: true; the input reads as it did. -/
def rollAmplitudesSpec : ChangeSpec := { name := "rollAmplitudes", fn := fun _ => fun
  | [d1, d2] => { results := [.lit (.bool true)], args := [d1, d2] }
  | _ => none }
def rollAmplitudesRow : OpenClaim := { program := "ytemihhkbieplmaa", sum := "06dbd96a8b1cb98df022828d6978078cdf9844b698e06082d4f9fdd119d2c576", func := "cobble/cobblelaw06.RollAmplitudes", spec := "rollAmplitudes", unfollowed := true, recurses := true, apart := false }
def RollAmplitudesSaid : Prop := rollAmplitudesRow.holds Try.pinned (OpenSpec.ofChange rollAmplitudesSpec)

/-- ITS FALSE NEIGHBOUR: 'it returns false'. Refute it at one input. -/
def rollAmplitudesWrong : ChangeSpec := { name := "rollAmplitudes", fn := fun _ => fun
  | [d1, d2] => { results := [.lit (.bool false)], args := [d1, d2] }
  | _ => none }
def RollAmplitudesWrongFalsely : Prop := rollAmplitudesRow.holds Try.pinned (OpenSpec.ofChange rollAmplitudesWrong)

/-- 'cobblelaw06.RollBest': WHATEVER THE INPUT: true; the input reads as it did. -/
def rollBestSpec : ChangeSpec := { name := "rollBest", fn := fun _ => fun
  | [d1, d2, d3] => { results := [.lit (.bool true)], args := [d1, d2, d3] }
  | _ => none }
def rollBestRow : OpenClaim := { program := "ytemihhkbieplmaa", sum := "06dbd96a8b1cb98df022828d6978078cdf9844b698e06082d4f9fdd119d2c576", func := "cobble/cobblelaw06.RollBest", spec := "rollBest", unfollowed := true, recurses := true, apart := false }
def RollBestSaid : Prop := rollBestRow.holds Try.pinned (OpenSpec.ofChange rollBestSpec)

/-- ITS FALSE NEIGHBOUR: 'it returns false'. Refute it at one input. -/
def rollBestWrong : ChangeSpec := { name := "rollBest", fn := fun _ => fun
  | [d1, d2, d3] => { results := [.lit (.bool false)], args := [d1, d2, d3] }
  | _ => none }
def RollBestWrongFalsely : Prop := rollBestRow.holds Try.pinned (OpenSpec.ofChange rollBestWrong)

/-- 'cobblelaw06.RollRecords': WHATEVER THE INPUT: true; the input reads as it did. -/
def rollRecordsSpec : ChangeSpec := { name := "rollRecords", fn := fun _ => fun
  | [d1, d2, d3] => { results := [.lit (.bool true)], args := [d1, d2, d3] }
  | _ => none }
def rollRecordsRow : OpenClaim := { program := "ytemihhkbieplmaa", sum := "06dbd96a8b1cb98df022828d6978078cdf9844b698e06082d4f9fdd119d2c576", func := "cobble/cobblelaw06.RollRecords", spec := "rollRecords", unfollowed := true, recurses := true, apart := false }
def RollRecordsSaid : Prop := rollRecordsRow.holds Try.pinned (OpenSpec.ofChange rollRecordsSpec)

/-- ITS FALSE NEIGHBOUR: 'it returns false'. Refute it at one input. -/
def rollRecordsWrong : ChangeSpec := { name := "rollRecords", fn := fun _ => fun
  | [d1, d2, d3] => { results := [.lit (.bool false)], args := [d1, d2, d3] }
  | _ => none }
def RollRecordsWrongFalsely : Prop := rollRecordsRow.holds Try.pinned (OpenSpec.ofChange rollRecordsWrong)

/-- 'cobblelaw06.RollMarked': WHATEVER THE INPUT: true; the input reads as it did. -/
def rollMarkedSpec : ChangeSpec := { name := "rollMarked", fn := fun _ => fun
  | [d1, d2] => { results := [.lit (.bool true)], args := [d1, d2] }
  | _ => none }
def rollMarkedRow : OpenClaim := { program := "ytemihhkbieplmaa", sum := "06dbd96a8b1cb98df022828d6978078cdf9844b698e06082d4f9fdd119d2c576", func := "cobble/cobblelaw06.RollMarked", spec := "rollMarked", unfollowed := true, recurses := true, apart := false }
def RollMarkedSaid : Prop := rollMarkedRow.holds Try.pinned (OpenSpec.ofChange rollMarkedSpec)

/-- ITS FALSE NEIGHBOUR: 'it returns false'. Refute it at one input. -/
def rollMarkedWrong : ChangeSpec := { name := "rollMarked", fn := fun _ => fun
  | [d1, d2] => { results := [.lit (.bool false)], args := [d1, d2] }
  | _ => none }
def RollMarkedWrongFalsely : Prop := rollMarkedRow.holds Try.pinned (OpenSpec.ofChange rollMarkedWrong)

/-- 'cobblelaw06.RollResidual': WHATEVER THE INPUT: true; the input reads as it did. -/
def rollResidualSpec : ChangeSpec := { name := "rollResidual", fn := fun _ => fun
  | [d1, d2, d3] => { results := [.lit (.bool true)], args := [d1, d2, d3] }
  | _ => none }
def rollResidualRow : OpenClaim := { program := "ytemihhkbieplmaa", sum := "06dbd96a8b1cb98df022828d6978078cdf9844b698e06082d4f9fdd119d2c576", func := "cobble/cobblelaw06.RollResidual", spec := "rollResidual", unfollowed := true, recurses := true, apart := false }
def RollResidualSaid : Prop := rollResidualRow.holds Try.pinned (OpenSpec.ofChange rollResidualSpec)

/-- ITS FALSE NEIGHBOUR: 'it returns false'. Refute it at one input. -/
def rollResidualWrong : ChangeSpec := { name := "rollResidual", fn := fun _ => fun
  | [d1, d2, d3] => { results := [.lit (.bool false)], args := [d1, d2, d3] }
  | _ => none }
def RollResidualWrongFalsely : Prop := rollResidualRow.holds Try.pinned (OpenSpec.ofChange rollResidualWrong)

/-- 'cobblelaw06.RollProofs': WHATEVER THE INPUT: true; the input reads as it did. -/
def rollProofsSpec : ChangeSpec := { name := "rollProofs", fn := fun _ => fun
  | [d1, d2, d3] => { results := [.lit (.bool true)], args := [d1, d2, d3] }
  | _ => none }
def rollProofsRow : OpenClaim := { program := "ytemihhkbieplmaa", sum := "06dbd96a8b1cb98df022828d6978078cdf9844b698e06082d4f9fdd119d2c576", func := "cobble/cobblelaw06.RollProofs", spec := "rollProofs", unfollowed := true, recurses := true, apart := false }
def RollProofsSaid : Prop := rollProofsRow.holds Try.pinned (OpenSpec.ofChange rollProofsSpec)

/-- ITS FALSE NEIGHBOUR: 'it returns false'. Refute it at one input. -/
def rollProofsWrong : ChangeSpec := { name := "rollProofs", fn := fun _ => fun
  | [d1, d2, d3] => { results := [.lit (.bool false)], args := [d1, d2, d3] }
  | _ => none }
def RollProofsWrongFalsely : Prop := rollProofsRow.holds Try.pinned (OpenSpec.ofChange rollProofsWrong)

/-- 'cobblelaw06.RollCauses': WHATEVER THE INPUT: true; the input reads as it did. -/
def rollCausesSpec : ChangeSpec := { name := "rollCauses", fn := fun _ => fun
  | [d1, d2] => { results := [.lit (.bool true)], args := [d1, d2] }
  | _ => none }
def rollCausesRow : OpenClaim := { program := "ytemihhkbieplmaa", sum := "06dbd96a8b1cb98df022828d6978078cdf9844b698e06082d4f9fdd119d2c576", func := "cobble/cobblelaw06.RollCauses", spec := "rollCauses", unfollowed := true, recurses := true, apart := false }
def RollCausesSaid : Prop := rollCausesRow.holds Try.pinned (OpenSpec.ofChange rollCausesSpec)

/-- ITS FALSE NEIGHBOUR: 'it returns false'. Refute it at one input. -/
def rollCausesWrong : ChangeSpec := { name := "rollCauses", fn := fun _ => fun
  | [d1, d2] => { results := [.lit (.bool false)], args := [d1, d2] }
  | _ => none }
def RollCausesWrongFalsely : Prop := rollCausesRow.holds Try.pinned (OpenSpec.ofChange rollCausesWrong)

/-- 'cobblelaw06.RollContradicted': WHATEVER THE INPUT: true; the input reads as it did. -/
def rollContradictedSpec : ChangeSpec := { name := "rollContradicted", fn := fun _ => fun
  | [d1, d2] => { results := [.lit (.bool true)], args := [d1, d2] }
  | _ => none }
def rollContradictedRow : OpenClaim := { program := "ytemihhkbieplmaa", sum := "06dbd96a8b1cb98df022828d6978078cdf9844b698e06082d4f9fdd119d2c576", func := "cobble/cobblelaw06.RollContradicted", spec := "rollContradicted", unfollowed := true, recurses := true, apart := false }
def RollContradictedSaid : Prop := rollContradictedRow.holds Try.pinned (OpenSpec.ofChange rollContradictedSpec)

/-- ITS FALSE NEIGHBOUR: 'it returns false'. Refute it at one input. -/
def rollContradictedWrong : ChangeSpec := { name := "rollContradicted", fn := fun _ => fun
  | [d1, d2] => { results := [.lit (.bool false)], args := [d1, d2] }
  | _ => none }
def RollContradictedWrongFalsely : Prop := rollContradictedRow.holds Try.pinned (OpenSpec.ofChange rollContradictedWrong)

/-- 'cobblelaw06.RollFits': WHATEVER THE INPUT: true; the input reads as it did. -/
def rollFitsSpec : ChangeSpec := { name := "rollFits", fn := fun _ => fun
  | [d1, d2, d3] => { results := [.lit (.bool true)], args := [d1, d2, d3] }
  | _ => none }
def rollFitsRow : OpenClaim := { program := "ytemihhkbieplmaa", sum := "06dbd96a8b1cb98df022828d6978078cdf9844b698e06082d4f9fdd119d2c576", func := "cobble/cobblelaw06.RollFits", spec := "rollFits", unfollowed := true, recurses := true, apart := false }
def RollFitsSaid : Prop := rollFitsRow.holds Try.pinned (OpenSpec.ofChange rollFitsSpec)

/-- ITS FALSE NEIGHBOUR: 'it returns false'. Refute it at one input. -/
def rollFitsWrong : ChangeSpec := { name := "rollFits", fn := fun _ => fun
  | [d1, d2, d3] => { results := [.lit (.bool false)], args := [d1, d2, d3] }
  | _ => none }
def RollFitsWrongFalsely : Prop := rollFitsRow.holds Try.pinned (OpenSpec.ofChange rollFitsWrong)

/-- 'cobblelaw06.RollHarmonics': WHATEVER THE INPUT: true; the input reads as it did. -/
def rollHarmonicsSpec : ChangeSpec := { name := "rollHarmonics", fn := fun _ => fun
  | [d1, d2, d3] => { results := [.lit (.bool true)], args := [d1, d2, d3] }
  | _ => none }
def rollHarmonicsRow : OpenClaim := { program := "ytemihhkbieplmaa", sum := "06dbd96a8b1cb98df022828d6978078cdf9844b698e06082d4f9fdd119d2c576", func := "cobble/cobblelaw06.RollHarmonics", spec := "rollHarmonics", unfollowed := true, recurses := true, apart := false }
def RollHarmonicsSaid : Prop := rollHarmonicsRow.holds Try.pinned (OpenSpec.ofChange rollHarmonicsSpec)

/-- ITS FALSE NEIGHBOUR: 'it returns false'. Refute it at one input. -/
def rollHarmonicsWrong : ChangeSpec := { name := "rollHarmonics", fn := fun _ => fun
  | [d1, d2, d3] => { results := [.lit (.bool false)], args := [d1, d2, d3] }
  | _ => none }
def RollHarmonicsWrongFalsely : Prop := rollHarmonicsRow.holds Try.pinned (OpenSpec.ofChange rollHarmonicsWrong)

/-- 'cobblelaw06.RollFound': WHATEVER THE INPUT: true; the input reads as it did. -/
def rollFoundSpec : ChangeSpec := { name := "rollFound", fn := fun _ => fun
  | [d1, d2] => { results := [.lit (.bool true)], args := [d1, d2] }
  | _ => none }
def rollFoundRow : OpenClaim := { program := "ytemihhkbieplmaa", sum := "06dbd96a8b1cb98df022828d6978078cdf9844b698e06082d4f9fdd119d2c576", func := "cobble/cobblelaw06.RollFound", spec := "rollFound", unfollowed := true, recurses := true, apart := false }
def RollFoundSaid : Prop := rollFoundRow.holds Try.pinned (OpenSpec.ofChange rollFoundSpec)

/-- ITS FALSE NEIGHBOUR: 'it returns false'. Refute it at one input. -/
def rollFoundWrong : ChangeSpec := { name := "rollFound", fn := fun _ => fun
  | [d1, d2] => { results := [.lit (.bool false)], args := [d1, d2] }
  | _ => none }
def RollFoundWrongFalsely : Prop := rollFoundRow.holds Try.pinned (OpenSpec.ofChange rollFoundWrong)

/-- 'cobbletop.TopRollLinear': WHATEVER THE INPUT: true; the input reads as it did. -/
def topRollLinearSpec : ChangeSpec := { name := "topRollLinear", fn := fun _ => fun
  | [d1, d2, d3] => { results := [.lit (.bool true)], args := [d1, d2, d3] }
  | _ => none }
def topRollLinearRow : OpenClaim := { program := "ytemihhkbieplmaa", sum := "06dbd96a8b1cb98df022828d6978078cdf9844b698e06082d4f9fdd119d2c576", func := "cobble/cobbletop.TopRollLinear", spec := "topRollLinear", unfollowed := true, recurses := true, apart := false }
def TopRollLinearSaid : Prop := topRollLinearRow.holds Try.pinned (OpenSpec.ofChange topRollLinearSpec)

/-- ITS FALSE NEIGHBOUR: 'it returns false'. Refute it at one input. -/
def topRollLinearWrong : ChangeSpec := { name := "topRollLinear", fn := fun _ => fun
  | [d1, d2, d3] => { results := [.lit (.bool false)], args := [d1, d2, d3] }
  | _ => none }
def TopRollLinearWrongFalsely : Prop := topRollLinearRow.holds Try.pinned (OpenSpec.ofChange topRollLinearWrong)

/- THE SECOND FORM. 'bulk': how many values and letters a reading holds, each counted each time it is reached (what is shared counts as often as it is met; a slice's spare places count too). A statement '..UptoSaid' is the law's where the arguments, and the package variables that the reading takes, are together of bulk at most 1048576: NARROWER than '..Said'. Prove '..Said' where nothing that the law and all that it calls make is longer than what came in: it says more and counts as full. Else prove '..UptoSaid'. A law counts once. -/
mutual
def uptoBulk {H : Type} : DataW H → Nat
  | .lit (.string bytes) => bytes.length + 1
  | .lit _ => 1
  | .nil => 1
  | .ptr d => uptoBulk d + 1
  | .slice elems spare => uptoBulkAll elems + uptoBulkAll spare + 1
  | .agg parts => uptoBulkAll parts + 1
  | .iface _ d => uptoBulk d + 1
  | .map entries => uptoBulkEntries entries + 1
  | .held _ => 1
def uptoBulkAll {H : Type} : List (DataW H) → Nat
  | [] => 0
  | d :: r => uptoBulk d + uptoBulkAll r
def uptoBulkEntries {H : Type} : List (Lit × DataW H) → Nat
  | [] => 0
  | x :: r => uptoBulkEntry x + uptoBulkEntries r
def uptoBulkEntry {H : Type} : Lit × DataW H → Nat
  | (.string bytes, d) => bytes.length + uptoBulk d + 1
  | (_, d) => uptoBulk d + 1
 end
def uptoSmall : (H : Type) → List (DataW H) → Bool := fun _ ds => decide (uptoBulkAll ds ≤ 1048576)
def OpenSpec.upto (s : _root_.Go.ChangeSpec) : _root_.Go.OpenSpec := { _root_.Go.OpenSpec.ofChange s with cond := some uptoSmall }

/-- 'cobblelaw06.RollPeriodic', WHERE WHAT IT READS IS OF BULK AT MOST 1048576: true; the input reads as it did. -/
def rollPeriodicUptoRow : OpenClaim := { program := "ytemihhkbieplmaa", sum := "06dbd96a8b1cb98df022828d6978078cdf9844b698e06082d4f9fdd119d2c576", func := "cobble/cobblelaw06.RollPeriodic", spec := "rollPeriodic", unfollowed := true, recurses := true, apart := false, narrowed := true }
def RollPeriodicUptoSaid : Prop := rollPeriodicUptoRow.holds Try.pinned (OpenSpec.upto rollPeriodicSpec)

/-- 'cobblelaw06.RollCancels', WHERE WHAT IT READS IS OF BULK AT MOST 1048576: true; the input reads as it did. -/
def rollCancelsUptoRow : OpenClaim := { program := "ytemihhkbieplmaa", sum := "06dbd96a8b1cb98df022828d6978078cdf9844b698e06082d4f9fdd119d2c576", func := "cobble/cobblelaw06.RollCancels", spec := "rollCancels", unfollowed := true, recurses := true, apart := false, narrowed := true }
def RollCancelsUptoSaid : Prop := rollCancelsUptoRow.holds Try.pinned (OpenSpec.upto rollCancelsSpec)

/-- 'cobblelaw06.RollAmplitudes', WHERE WHAT IT READS IS OF BULK AT MOST 1048576: true; the input reads as it did. -/
def rollAmplitudesUptoRow : OpenClaim := { program := "ytemihhkbieplmaa", sum := "06dbd96a8b1cb98df022828d6978078cdf9844b698e06082d4f9fdd119d2c576", func := "cobble/cobblelaw06.RollAmplitudes", spec := "rollAmplitudes", unfollowed := true, recurses := true, apart := false, narrowed := true }
def RollAmplitudesUptoSaid : Prop := rollAmplitudesUptoRow.holds Try.pinned (OpenSpec.upto rollAmplitudesSpec)

/-- 'cobblelaw06.RollBest', WHERE WHAT IT READS IS OF BULK AT MOST 1048576: true; the input reads as it did. -/
def rollBestUptoRow : OpenClaim := { program := "ytemihhkbieplmaa", sum := "06dbd96a8b1cb98df022828d6978078cdf9844b698e06082d4f9fdd119d2c576", func := "cobble/cobblelaw06.RollBest", spec := "rollBest", unfollowed := true, recurses := true, apart := false, narrowed := true }
def RollBestUptoSaid : Prop := rollBestUptoRow.holds Try.pinned (OpenSpec.upto rollBestSpec)

/-- 'cobblelaw06.RollRecords', WHERE WHAT IT READS IS OF BULK AT MOST 1048576: true; the input reads as it did. -/
def rollRecordsUptoRow : OpenClaim := { program := "ytemihhkbieplmaa", sum := "06dbd96a8b1cb98df022828d6978078cdf9844b698e06082d4f9fdd119d2c576", func := "cobble/cobblelaw06.RollRecords", spec := "rollRecords", unfollowed := true, recurses := true, apart := false, narrowed := true }
def RollRecordsUptoSaid : Prop := rollRecordsUptoRow.holds Try.pinned (OpenSpec.upto rollRecordsSpec)

/-- 'cobblelaw06.RollMarked', WHERE WHAT IT READS IS OF BULK AT MOST 1048576: true; the input reads as it did. -/
def rollMarkedUptoRow : OpenClaim := { program := "ytemihhkbieplmaa", sum := "06dbd96a8b1cb98df022828d6978078cdf9844b698e06082d4f9fdd119d2c576", func := "cobble/cobblelaw06.RollMarked", spec := "rollMarked", unfollowed := true, recurses := true, apart := false, narrowed := true }
def RollMarkedUptoSaid : Prop := rollMarkedUptoRow.holds Try.pinned (OpenSpec.upto rollMarkedSpec)

/-- 'cobblelaw06.RollResidual', WHERE WHAT IT READS IS OF BULK AT MOST 1048576: true; the input reads as it did. -/
def rollResidualUptoRow : OpenClaim := { program := "ytemihhkbieplmaa", sum := "06dbd96a8b1cb98df022828d6978078cdf9844b698e06082d4f9fdd119d2c576", func := "cobble/cobblelaw06.RollResidual", spec := "rollResidual", unfollowed := true, recurses := true, apart := false, narrowed := true }
def RollResidualUptoSaid : Prop := rollResidualUptoRow.holds Try.pinned (OpenSpec.upto rollResidualSpec)

/-- 'cobblelaw06.RollProofs', WHERE WHAT IT READS IS OF BULK AT MOST 1048576: true; the input reads as it did. -/
def rollProofsUptoRow : OpenClaim := { program := "ytemihhkbieplmaa", sum := "06dbd96a8b1cb98df022828d6978078cdf9844b698e06082d4f9fdd119d2c576", func := "cobble/cobblelaw06.RollProofs", spec := "rollProofs", unfollowed := true, recurses := true, apart := false, narrowed := true }
def RollProofsUptoSaid : Prop := rollProofsUptoRow.holds Try.pinned (OpenSpec.upto rollProofsSpec)

/-- 'cobblelaw06.RollCauses', WHERE WHAT IT READS IS OF BULK AT MOST 1048576: true; the input reads as it did. -/
def rollCausesUptoRow : OpenClaim := { program := "ytemihhkbieplmaa", sum := "06dbd96a8b1cb98df022828d6978078cdf9844b698e06082d4f9fdd119d2c576", func := "cobble/cobblelaw06.RollCauses", spec := "rollCauses", unfollowed := true, recurses := true, apart := false, narrowed := true }
def RollCausesUptoSaid : Prop := rollCausesUptoRow.holds Try.pinned (OpenSpec.upto rollCausesSpec)

/-- 'cobblelaw06.RollContradicted', WHERE WHAT IT READS IS OF BULK AT MOST 1048576: true; the input reads as it did. -/
def rollContradictedUptoRow : OpenClaim := { program := "ytemihhkbieplmaa", sum := "06dbd96a8b1cb98df022828d6978078cdf9844b698e06082d4f9fdd119d2c576", func := "cobble/cobblelaw06.RollContradicted", spec := "rollContradicted", unfollowed := true, recurses := true, apart := false, narrowed := true }
def RollContradictedUptoSaid : Prop := rollContradictedUptoRow.holds Try.pinned (OpenSpec.upto rollContradictedSpec)

/-- 'cobblelaw06.RollFits', WHERE WHAT IT READS IS OF BULK AT MOST 1048576: true; the input reads as it did. -/
def rollFitsUptoRow : OpenClaim := { program := "ytemihhkbieplmaa", sum := "06dbd96a8b1cb98df022828d6978078cdf9844b698e06082d4f9fdd119d2c576", func := "cobble/cobblelaw06.RollFits", spec := "rollFits", unfollowed := true, recurses := true, apart := false, narrowed := true }
def RollFitsUptoSaid : Prop := rollFitsUptoRow.holds Try.pinned (OpenSpec.upto rollFitsSpec)

/-- 'cobblelaw06.RollHarmonics', WHERE WHAT IT READS IS OF BULK AT MOST 1048576: true; the input reads as it did. -/
def rollHarmonicsUptoRow : OpenClaim := { program := "ytemihhkbieplmaa", sum := "06dbd96a8b1cb98df022828d6978078cdf9844b698e06082d4f9fdd119d2c576", func := "cobble/cobblelaw06.RollHarmonics", spec := "rollHarmonics", unfollowed := true, recurses := true, apart := false, narrowed := true }
def RollHarmonicsUptoSaid : Prop := rollHarmonicsUptoRow.holds Try.pinned (OpenSpec.upto rollHarmonicsSpec)

/-- 'cobblelaw06.RollFound', WHERE WHAT IT READS IS OF BULK AT MOST 1048576: true; the input reads as it did. -/
def rollFoundUptoRow : OpenClaim := { program := "ytemihhkbieplmaa", sum := "06dbd96a8b1cb98df022828d6978078cdf9844b698e06082d4f9fdd119d2c576", func := "cobble/cobblelaw06.RollFound", spec := "rollFound", unfollowed := true, recurses := true, apart := false, narrowed := true }
def RollFoundUptoSaid : Prop := rollFoundUptoRow.holds Try.pinned (OpenSpec.upto rollFoundSpec)

/-- 'cobbletop.TopRollLinear', WHERE WHAT IT READS IS OF BULK AT MOST 1048576: true; the input reads as it did. -/
def topRollLinearUptoRow : OpenClaim := { program := "ytemihhkbieplmaa", sum := "06dbd96a8b1cb98df022828d6978078cdf9844b698e06082d4f9fdd119d2c576", func := "cobble/cobbletop.TopRollLinear", spec := "topRollLinear", unfollowed := true, recurses := true, apart := false, narrowed := true }
def TopRollLinearUptoSaid : Prop := topRollLinearUptoRow.holds Try.pinned (OpenSpec.upto topRollLinearSpec)

end Rows
end Go.Proofs.Ytemihhkbieplmaa
