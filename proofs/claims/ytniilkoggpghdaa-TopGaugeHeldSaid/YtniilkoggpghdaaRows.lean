/-
  No cell of these rows narrows 'for every input' (looked for: loops, veiled, ifaces, maps, wideKeys, modest, calm, conditions, laid).
  DERIVED. THE GIVEN ROWS OF THIS SEAT. 11 by the template 'for every input the law returns true; each argument reads behind the call as it read before'; 0 by the template 'total and deterministic' (their statements: YtniilkoggpghdaaTotals.lean).
  GIVEN WITH THE SEED: the statements are not yours to turn. If you find one false, say at which input.
  Laid BY PROGRAM, IN A SANDBOX (cutbox-rows.mjs): the forced cells as the released guide's own fill.sh prints them over the translation dcb1001c7f223326… (all of the seat's roots in one cut). By AI agents, Wed Nov 11 2026. No macro, syntax, notation, axiom, sorry.
-/
import Derived.Test.YtniilkoggpghdaaChecked
import GoSem.Claim
import GoSem.ClaimJoined
import GoSem.ClaimMapViews
import Derived.JoinedTies
import Derived.KernelRfl
namespace Go.Proofs.Ytniilkoggpghdaa
/- THE CELL 'sum', in the pinned program and in every row, IS THE sha256 OF THE DUMP (.gsa) THAT YtniilkoggpghdaaProg.lean LOADS. Nothing in Lean hashes anything: it is a label: what it is worth is what the hold of that sum in a sandbox is worth. -/
noncomputable def Try.pinned : Pinned := { name := "ytniilkoggpghdaa", sum := "dcb1001c7f2233264cc5932e713a985bb8ac0429a1090fb4a0cd2d32b6cb6653", checked := Try.checked }
namespace Rows
def none {H : Type} : Left H := { results := [], args := [] }

/-- 'cobbletop.TopGaugeHeld': WHATEVER THE INPUT: true; the input reads as it did. -/
def topGaugeHeldSpec : ChangeSpec := { name := "topGaugeHeld", fn := fun _ => fun
  | [d1, d2, d3] => { results := [.lit (.bool true)], args := [d1, d2, d3] }
  | _ => none }
def topGaugeHeldRow : OpenClaim := { program := "ytniilkoggpghdaa", sum := "dcb1001c7f2233264cc5932e713a985bb8ac0429a1090fb4a0cd2d32b6cb6653", func := "cobble/cobbletop.TopGaugeHeld", spec := "topGaugeHeld", unfollowed := true, recurses := true, apart := false }
def TopGaugeHeldSaid : Prop := topGaugeHeldRow.holds Try.pinned (OpenSpec.ofChange topGaugeHeldSpec)

/-- ITS FALSE NEIGHBOUR: 'it returns false'. Refute it at one input. -/
def topGaugeHeldWrong : ChangeSpec := { name := "topGaugeHeld", fn := fun _ => fun
  | [d1, d2, d3] => { results := [.lit (.bool false)], args := [d1, d2, d3] }
  | _ => none }
def TopGaugeHeldWrongFalsely : Prop := topGaugeHeldRow.holds Try.pinned (OpenSpec.ofChange topGaugeHeldWrong)

/-- 'cobbletop.TopGaugeNeverAmplified': WHATEVER THE INPUT: true; the input reads as it did. -/
def topGaugeNeverAmplifiedSpec : ChangeSpec := { name := "topGaugeNeverAmplified", fn := fun _ => fun
  | [d1, d2, d3] => { results := [.lit (.bool true)], args := [d1, d2, d3] }
  | _ => none }
def topGaugeNeverAmplifiedRow : OpenClaim := { program := "ytniilkoggpghdaa", sum := "dcb1001c7f2233264cc5932e713a985bb8ac0429a1090fb4a0cd2d32b6cb6653", func := "cobble/cobbletop.TopGaugeNeverAmplified", spec := "topGaugeNeverAmplified", unfollowed := true, recurses := true, apart := false }
def TopGaugeNeverAmplifiedSaid : Prop := topGaugeNeverAmplifiedRow.holds Try.pinned (OpenSpec.ofChange topGaugeNeverAmplifiedSpec)

/-- ITS FALSE NEIGHBOUR: 'it returns false'. Refute it at one input. -/
def topGaugeNeverAmplifiedWrong : ChangeSpec := { name := "topGaugeNeverAmplified", fn := fun _ => fun
  | [d1, d2, d3] => { results := [.lit (.bool false)], args := [d1, d2, d3] }
  | _ => none }
def TopGaugeNeverAmplifiedWrongFalsely : Prop := topGaugeNeverAmplifiedRow.holds Try.pinned (OpenSpec.ofChange topGaugeNeverAmplifiedWrong)

/-- 'cobblelaw05.GaugeChains': WHATEVER THE INPUT: true; the input reads as it did. -/
def gaugeChainsSpec : ChangeSpec := { name := "gaugeChains", fn := fun _ => fun
  | [d1, d2] => { results := [.lit (.bool true)], args := [d1, d2] }
  | _ => none }
def gaugeChainsRow : OpenClaim := { program := "ytniilkoggpghdaa", sum := "dcb1001c7f2233264cc5932e713a985bb8ac0429a1090fb4a0cd2d32b6cb6653", func := "cobble/cobblelaw05.GaugeChains", spec := "gaugeChains", unfollowed := true, recurses := true, apart := false }
def GaugeChainsSaid : Prop := gaugeChainsRow.holds Try.pinned (OpenSpec.ofChange gaugeChainsSpec)

/-- ITS FALSE NEIGHBOUR: 'it returns false'. Refute it at one input. -/
def gaugeChainsWrong : ChangeSpec := { name := "gaugeChains", fn := fun _ => fun
  | [d1, d2] => { results := [.lit (.bool false)], args := [d1, d2] }
  | _ => none }
def GaugeChainsWrongFalsely : Prop := gaugeChainsRow.holds Try.pinned (OpenSpec.ofChange gaugeChainsWrong)

/-- 'cobblelaw05.GaugeBoxes': WHATEVER THE INPUT: true; the input reads as it did. -/
def gaugeBoxesSpec : ChangeSpec := { name := "gaugeBoxes", fn := fun _ => fun
  | [d1, d2, d3] => { results := [.lit (.bool true)], args := [d1, d2, d3] }
  | _ => none }
def gaugeBoxesRow : OpenClaim := { program := "ytniilkoggpghdaa", sum := "dcb1001c7f2233264cc5932e713a985bb8ac0429a1090fb4a0cd2d32b6cb6653", func := "cobble/cobblelaw05.GaugeBoxes", spec := "gaugeBoxes", unfollowed := true, recurses := true, apart := false }
def GaugeBoxesSaid : Prop := gaugeBoxesRow.holds Try.pinned (OpenSpec.ofChange gaugeBoxesSpec)

/-- ITS FALSE NEIGHBOUR: 'it returns false'. Refute it at one input. -/
def gaugeBoxesWrong : ChangeSpec := { name := "gaugeBoxes", fn := fun _ => fun
  | [d1, d2, d3] => { results := [.lit (.bool false)], args := [d1, d2, d3] }
  | _ => none }
def GaugeBoxesWrongFalsely : Prop := gaugeBoxesRow.holds Try.pinned (OpenSpec.ofChange gaugeBoxesWrong)

/-- 'cobblelaw05.GaugeFlows': WHATEVER THE INPUT: true; the input reads as it did. -/
def gaugeFlowsSpec : ChangeSpec := { name := "gaugeFlows", fn := fun _ => fun
  | [d1, d2] => { results := [.lit (.bool true)], args := [d1, d2] }
  | _ => none }
def gaugeFlowsRow : OpenClaim := { program := "ytniilkoggpghdaa", sum := "dcb1001c7f2233264cc5932e713a985bb8ac0429a1090fb4a0cd2d32b6cb6653", func := "cobble/cobblelaw05.GaugeFlows", spec := "gaugeFlows", unfollowed := true, recurses := true, apart := false }
def GaugeFlowsSaid : Prop := gaugeFlowsRow.holds Try.pinned (OpenSpec.ofChange gaugeFlowsSpec)

/-- ITS FALSE NEIGHBOUR: 'it returns false'. Refute it at one input. -/
def gaugeFlowsWrong : ChangeSpec := { name := "gaugeFlows", fn := fun _ => fun
  | [d1, d2] => { results := [.lit (.bool false)], args := [d1, d2] }
  | _ => none }
def GaugeFlowsWrongFalsely : Prop := gaugeFlowsRow.holds Try.pinned (OpenSpec.ofChange gaugeFlowsWrong)

/-- 'cobblelaw05.GaugeMonitors': WHATEVER THE INPUT: true; the input reads as it did. -/
def gaugeMonitorsSpec : ChangeSpec := { name := "gaugeMonitors", fn := fun _ => fun
  | [d1, d2, d3] => { results := [.lit (.bool true)], args := [d1, d2, d3] }
  | _ => none }
def gaugeMonitorsRow : OpenClaim := { program := "ytniilkoggpghdaa", sum := "dcb1001c7f2233264cc5932e713a985bb8ac0429a1090fb4a0cd2d32b6cb6653", func := "cobble/cobblelaw05.GaugeMonitors", spec := "gaugeMonitors", unfollowed := true, recurses := true, apart := false }
def GaugeMonitorsSaid : Prop := gaugeMonitorsRow.holds Try.pinned (OpenSpec.ofChange gaugeMonitorsSpec)

/-- ITS FALSE NEIGHBOUR: 'it returns false'. Refute it at one input. -/
def gaugeMonitorsWrong : ChangeSpec := { name := "gaugeMonitors", fn := fun _ => fun
  | [d1, d2, d3] => { results := [.lit (.bool false)], args := [d1, d2, d3] }
  | _ => none }
def GaugeMonitorsWrongFalsely : Prop := gaugeMonitorsRow.holds Try.pinned (OpenSpec.ofChange gaugeMonitorsWrong)

/-- 'cobblelaw05.GaugeBands': WHATEVER THE INPUT: true; the input reads as it did. -/
def gaugeBandsSpec : ChangeSpec := { name := "gaugeBands", fn := fun _ => fun
  | [d1, d2] => { results := [.lit (.bool true)], args := [d1, d2] }
  | _ => none }
def gaugeBandsRow : OpenClaim := { program := "ytniilkoggpghdaa", sum := "dcb1001c7f2233264cc5932e713a985bb8ac0429a1090fb4a0cd2d32b6cb6653", func := "cobble/cobblelaw05.GaugeBands", spec := "gaugeBands", unfollowed := true, recurses := true, apart := false }
def GaugeBandsSaid : Prop := gaugeBandsRow.holds Try.pinned (OpenSpec.ofChange gaugeBandsSpec)

/-- ITS FALSE NEIGHBOUR: 'it returns false'. Refute it at one input. -/
def gaugeBandsWrong : ChangeSpec := { name := "gaugeBands", fn := fun _ => fun
  | [d1, d2] => { results := [.lit (.bool false)], args := [d1, d2] }
  | _ => none }
def GaugeBandsWrongFalsely : Prop := gaugeBandsRow.holds Try.pinned (OpenSpec.ofChange gaugeBandsWrong)

/-- 'cobblelaw05.GaugeKept': WHATEVER THE INPUT: true; the input reads as it did. -/
def gaugeKeptSpec : ChangeSpec := { name := "gaugeKept", fn := fun _ => fun
  | [d1, d2, d3] => { results := [.lit (.bool true)], args := [d1, d2, d3] }
  | _ => none }
def gaugeKeptRow : OpenClaim := { program := "ytniilkoggpghdaa", sum := "dcb1001c7f2233264cc5932e713a985bb8ac0429a1090fb4a0cd2d32b6cb6653", func := "cobble/cobblelaw05.GaugeKept", spec := "gaugeKept", unfollowed := true, recurses := true, apart := false }
def GaugeKeptSaid : Prop := gaugeKeptRow.holds Try.pinned (OpenSpec.ofChange gaugeKeptSpec)

/-- ITS FALSE NEIGHBOUR: 'it returns false'. Refute it at one input. -/
def gaugeKeptWrong : ChangeSpec := { name := "gaugeKept", fn := fun _ => fun
  | [d1, d2, d3] => { results := [.lit (.bool false)], args := [d1, d2, d3] }
  | _ => none }
def GaugeKeptWrongFalsely : Prop := gaugeKeptRow.holds Try.pinned (OpenSpec.ofChange gaugeKeptWrong)

/-- 'cobblelaw05.GaugeSuperposed': WHATEVER THE INPUT: true; the input reads as it did. -/
def gaugeSuperposedSpec : ChangeSpec := { name := "gaugeSuperposed", fn := fun _ => fun
  | [d1, d2, d3] => { results := [.lit (.bool true)], args := [d1, d2, d3] }
  | _ => none }
def gaugeSuperposedRow : OpenClaim := { program := "ytniilkoggpghdaa", sum := "dcb1001c7f2233264cc5932e713a985bb8ac0429a1090fb4a0cd2d32b6cb6653", func := "cobble/cobblelaw05.GaugeSuperposed", spec := "gaugeSuperposed", unfollowed := true, recurses := true, apart := false }
def GaugeSuperposedSaid : Prop := gaugeSuperposedRow.holds Try.pinned (OpenSpec.ofChange gaugeSuperposedSpec)

/-- ITS FALSE NEIGHBOUR: 'it returns false'. Refute it at one input. -/
def gaugeSuperposedWrong : ChangeSpec := { name := "gaugeSuperposed", fn := fun _ => fun
  | [d1, d2, d3] => { results := [.lit (.bool false)], args := [d1, d2, d3] }
  | _ => none }
def GaugeSuperposedWrongFalsely : Prop := gaugeSuperposedRow.holds Try.pinned (OpenSpec.ofChange gaugeSuperposedWrong)

/-- 'cobblelaw05.GaugeStands': WHATEVER THE INPUT: true; the input reads as it did. -/
def gaugeStandsSpec : ChangeSpec := { name := "gaugeStands", fn := fun _ => fun
  | [d1, d2, d3] => { results := [.lit (.bool true)], args := [d1, d2, d3] }
  | _ => none }
def gaugeStandsRow : OpenClaim := { program := "ytniilkoggpghdaa", sum := "dcb1001c7f2233264cc5932e713a985bb8ac0429a1090fb4a0cd2d32b6cb6653", func := "cobble/cobblelaw05.GaugeStands", spec := "gaugeStands", unfollowed := true, recurses := true, apart := false }
def GaugeStandsSaid : Prop := gaugeStandsRow.holds Try.pinned (OpenSpec.ofChange gaugeStandsSpec)

/-- ITS FALSE NEIGHBOUR: 'it returns false'. Refute it at one input. -/
def gaugeStandsWrong : ChangeSpec := { name := "gaugeStands", fn := fun _ => fun
  | [d1, d2, d3] => { results := [.lit (.bool false)], args := [d1, d2, d3] }
  | _ => none }
def GaugeStandsWrongFalsely : Prop := gaugeStandsRow.holds Try.pinned (OpenSpec.ofChange gaugeStandsWrong)

/-- 'cobblelaw05.GaugeForEvery': WHATEVER THE INPUT: true; the input reads as it did. -/
def gaugeForEverySpec : ChangeSpec := { name := "gaugeForEvery", fn := fun _ => fun
  | [d1, d2, d3] => { results := [.lit (.bool true)], args := [d1, d2, d3] }
  | _ => none }
def gaugeForEveryRow : OpenClaim := { program := "ytniilkoggpghdaa", sum := "dcb1001c7f2233264cc5932e713a985bb8ac0429a1090fb4a0cd2d32b6cb6653", func := "cobble/cobblelaw05.GaugeForEvery", spec := "gaugeForEvery", unfollowed := true, recurses := true, apart := false }
def GaugeForEverySaid : Prop := gaugeForEveryRow.holds Try.pinned (OpenSpec.ofChange gaugeForEverySpec)

/-- ITS FALSE NEIGHBOUR: 'it returns false'. Refute it at one input. -/
def gaugeForEveryWrong : ChangeSpec := { name := "gaugeForEvery", fn := fun _ => fun
  | [d1, d2, d3] => { results := [.lit (.bool false)], args := [d1, d2, d3] }
  | _ => none }
def GaugeForEveryWrongFalsely : Prop := gaugeForEveryRow.holds Try.pinned (OpenSpec.ofChange gaugeForEveryWrong)

/- THE SECOND FORM. 'bulk': how many values and letters a reading holds, each counted each time it is reached (what is shared counts as often as it is met; a slice's spare places count too). A statement '..UptoSaid' is the law's where the arguments, and the package variables that the reading takes, are together of bulk at most 1048576: NARROWER than '..Said'. Prove '..Said' where nothing that the law and all that it calls make is longer than what came in: it says more and counts as full. Else prove '..UptoSaid'. A law counts once. -/
mutual
def uptoBulk {H : Type} : DataW H → Nat
  | .lit (.string bytes) => bytes.length + 1
  | .lit _ => 1
  | .nil => 1
  | .ptr d => uptoBulk d + 1
  | .slice elems spare => uptoBulkAll elems + uptoBulkAll spare + 1
  | .agg parts => uptoBulkAll parts + 1
  | .iface _ d => uptoBulk d + 1
  | .map entries => uptoBulkEntries entries + 1
  | .held _ => 1
def uptoBulkAll {H : Type} : List (DataW H) → Nat
  | [] => 0
  | d :: r => uptoBulk d + uptoBulkAll r
def uptoBulkEntries {H : Type} : List (Lit × DataW H) → Nat
  | [] => 0
  | x :: r => uptoBulkEntry x + uptoBulkEntries r
def uptoBulkEntry {H : Type} : Lit × DataW H → Nat
  | (.string bytes, d) => bytes.length + uptoBulk d + 1
  | (_, d) => uptoBulk d + 1
 end
def uptoSmall : (H : Type) → List (DataW H) → Bool := fun _ ds => decide (uptoBulkAll ds ≤ 1048576)
def OpenSpec.upto (s : _root_.Go.ChangeSpec) : _root_.Go.OpenSpec := { _root_.Go.OpenSpec.ofChange s with cond := some uptoSmall }

/-- 'cobbletop.TopGaugeHeld', WHERE WHAT IT READS IS OF BULK AT MOST 1048576: true; the input reads as it did. -/
def topGaugeHeldUptoRow : OpenClaim := { program := "ytniilkoggpghdaa", sum := "dcb1001c7f2233264cc5932e713a985bb8ac0429a1090fb4a0cd2d32b6cb6653", func := "cobble/cobbletop.TopGaugeHeld", spec := "topGaugeHeld", unfollowed := true, recurses := true, apart := false, narrowed := true }
def TopGaugeHeldUptoSaid : Prop := topGaugeHeldUptoRow.holds Try.pinned (OpenSpec.upto topGaugeHeldSpec)

/-- 'cobbletop.TopGaugeNeverAmplified', WHERE WHAT IT READS IS OF BULK AT MOST 1048576: true; the input reads as it did. -/
def topGaugeNeverAmplifiedUptoRow : OpenClaim := { program := "ytniilkoggpghdaa", sum := "dcb1001c7f2233264cc5932e713a985bb8ac0429a1090fb4a0cd2d32b6cb6653", func := "cobble/cobbletop.TopGaugeNeverAmplified", spec := "topGaugeNeverAmplified", unfollowed := true, recurses := true, apart := false, narrowed := true }
def TopGaugeNeverAmplifiedUptoSaid : Prop := topGaugeNeverAmplifiedUptoRow.holds Try.pinned (OpenSpec.upto topGaugeNeverAmplifiedSpec)

/-- 'cobblelaw05.GaugeChains', WHERE WHAT IT READS IS OF BULK AT MOST 1048576: true; the input reads as it did. -/
def gaugeChainsUptoRow : OpenClaim := { program := "ytniilkoggpghdaa", sum := "dcb1001c7f2233264cc5932e713a985bb8ac0429a1090fb4a0cd2d32b6cb6653", func := "cobble/cobblelaw05.GaugeChains", spec := "gaugeChains", unfollowed := true, recurses := true, apart := false, narrowed := true }
def GaugeChainsUptoSaid : Prop := gaugeChainsUptoRow.holds Try.pinned (OpenSpec.upto gaugeChainsSpec)

/-- 'cobblelaw05.GaugeBoxes', WHERE WHAT IT READS IS OF BULK AT MOST 1048576: true; the input reads as it did. -/
def gaugeBoxesUptoRow : OpenClaim := { program := "ytniilkoggpghdaa", sum := "dcb1001c7f2233264cc5932e713a985bb8ac0429a1090fb4a0cd2d32b6cb6653", func := "cobble/cobblelaw05.GaugeBoxes", spec := "gaugeBoxes", unfollowed := true, recurses := true, apart := false, narrowed := true }
def GaugeBoxesUptoSaid : Prop := gaugeBoxesUptoRow.holds Try.pinned (OpenSpec.upto gaugeBoxesSpec)

/-- 'cobblelaw05.GaugeFlows', WHERE WHAT IT READS IS OF BULK AT MOST 1048576: true; the input reads as it did. -/
def gaugeFlowsUptoRow : OpenClaim := { program := "ytniilkoggpghdaa", sum := "dcb1001c7f2233264cc5932e713a985bb8ac0429a1090fb4a0cd2d32b6cb6653", func := "cobble/cobblelaw05.GaugeFlows", spec := "gaugeFlows", unfollowed := true, recurses := true, apart := false, narrowed := true }
def GaugeFlowsUptoSaid : Prop := gaugeFlowsUptoRow.holds Try.pinned (OpenSpec.upto gaugeFlowsSpec)

/-- 'cobblelaw05.GaugeMonitors', WHERE WHAT IT READS IS OF BULK AT MOST 1048576: true; the input reads as it did. -/
def gaugeMonitorsUptoRow : OpenClaim := { program := "ytniilkoggpghdaa", sum := "dcb1001c7f2233264cc5932e713a985bb8ac0429a1090fb4a0cd2d32b6cb6653", func := "cobble/cobblelaw05.GaugeMonitors", spec := "gaugeMonitors", unfollowed := true, recurses := true, apart := false, narrowed := true }
def GaugeMonitorsUptoSaid : Prop := gaugeMonitorsUptoRow.holds Try.pinned (OpenSpec.upto gaugeMonitorsSpec)

/-- 'cobblelaw05.GaugeBands', WHERE WHAT IT READS IS OF BULK AT MOST 1048576: true; the input reads as it did. -/
def gaugeBandsUptoRow : OpenClaim := { program := "ytniilkoggpghdaa", sum := "dcb1001c7f2233264cc5932e713a985bb8ac0429a1090fb4a0cd2d32b6cb6653", func := "cobble/cobblelaw05.GaugeBands", spec := "gaugeBands", unfollowed := true, recurses := true, apart := false, narrowed := true }
def GaugeBandsUptoSaid : Prop := gaugeBandsUptoRow.holds Try.pinned (OpenSpec.upto gaugeBandsSpec)

/-- 'cobblelaw05.GaugeKept', WHERE WHAT IT READS IS OF BULK AT MOST 1048576: true; the input reads as it did. -/
def gaugeKeptUptoRow : OpenClaim := { program := "ytniilkoggpghdaa", sum := "dcb1001c7f2233264cc5932e713a985bb8ac0429a1090fb4a0cd2d32b6cb6653", func := "cobble/cobblelaw05.GaugeKept", spec := "gaugeKept", unfollowed := true, recurses := true, apart := false, narrowed := true }
def GaugeKeptUptoSaid : Prop := gaugeKeptUptoRow.holds Try.pinned (OpenSpec.upto gaugeKeptSpec)

/-- 'cobblelaw05.GaugeSuperposed', WHERE WHAT IT READS IS OF BULK AT MOST 1048576: true; the input reads as it did. -/
def gaugeSuperposedUptoRow : OpenClaim := { program := "ytniilkoggpghdaa", sum := "dcb1001c7f2233264cc5932e713a985bb8ac0429a1090fb4a0cd2d32b6cb6653", func := "cobble/cobblelaw05.GaugeSuperposed", spec := "gaugeSuperposed", unfollowed := true, recurses := true, apart := false, narrowed := true }
def GaugeSuperposedUptoSaid : Prop := gaugeSuperposedUptoRow.holds Try.pinned (OpenSpec.upto gaugeSuperposedSpec)

/-- 'cobblelaw05.GaugeStands', WHERE WHAT IT READS IS OF BULK AT MOST 1048576: true; the input reads as it did. -/
def gaugeStandsUptoRow : OpenClaim := { program := "ytniilkoggpghdaa", sum := "dcb1001c7f2233264cc5932e713a985bb8ac0429a1090fb4a0cd2d32b6cb6653", func := "cobble/cobblelaw05.GaugeStands", spec := "gaugeStands", unfollowed := true, recurses := true, apart := false, narrowed := true }
def GaugeStandsUptoSaid : Prop := gaugeStandsUptoRow.holds Try.pinned (OpenSpec.upto gaugeStandsSpec)

/-- 'cobblelaw05.GaugeForEvery', WHERE WHAT IT READS IS OF BULK AT MOST 1048576: true; the input reads as it did. -/
def gaugeForEveryUptoRow : OpenClaim := { program := "ytniilkoggpghdaa", sum := "dcb1001c7f2233264cc5932e713a985bb8ac0429a1090fb4a0cd2d32b6cb6653", func := "cobble/cobblelaw05.GaugeForEvery", spec := "gaugeForEvery", unfollowed := true, recurses := true, apart := false, narrowed := true }
def GaugeForEveryUptoSaid : Prop := gaugeForEveryUptoRow.holds Try.pinned (OpenSpec.upto gaugeForEverySpec)

end Rows
end Go.Proofs.Ytniilkoggpghdaa
