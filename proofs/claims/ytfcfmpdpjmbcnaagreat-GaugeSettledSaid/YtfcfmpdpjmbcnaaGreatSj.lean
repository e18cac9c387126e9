/- Merged: XSi XSj. -/
import Derived.Test.YtfcfmpdpjmbcnaaGreatSg
set_option linter.unusedVariables false
set_option linter.unusedSimpArgs false
/- The reference's matrices. -/
namespace Go.Proofs.YtfcfmpdpjmbcnaaGreat
open Go.RowKit
set_option maxRecDepth 20000
set_option maxHeartbeats 8000000

section
variable {P : Program} {s : AS} {ty : TypeId} {ps : String} {af : Array Edge} {dst : Option Tmp} {k : IntKind}
end
end Go.Proofs.YtfcfmpdpjmbcnaaGreat

/- The reference's matrix of a tick, and powers. -/
namespace Go.Proofs.YtfcfmpdpjmbcnaaGreat
open Go.RowKit
set_option maxRecDepth 20000
set_option maxHeartbeats 8000000

end Go.Proofs.YtfcfmpdpjmbcnaaGreat
