/- Calls whose result holds a slice of its own. Nothing of the program. -/
import Derived.Test.YtagpmpbmfjaiiaaGreatDoorM9
set_option linter.unusedVariables false
set_option linter.unusedSimpArgs false
namespace Go.Proofs.YtagpmpbmfjaiiaaGreatDoor
open Go.RowKit

/-- Behind a call whose result holds a slice of its own: the slice is a link L. -/
abbrev calledX (s : AS) (d L : Nat) (e : TypeId) (cs : List DV) (n sz : Nat) (r : DV → DV) (b cap : Nat) : AS :=
  ⟨upd (fun i => (((s.newBlk d ⟨e, cs⟩ (.d (r (linkC b cap n)))).fr i).kill d).kill L) L (linkP b cap sz), upd (upd (s.newBlk d ⟨e, cs⟩ (.d (r (linkC b cap n)))).mem d none) L (some ⟨e, cs⟩)⟩
end Go.Proofs.YtagpmpbmfjaiiaaGreatDoor
