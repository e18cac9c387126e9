/- Parts of aggregates, and aggregates of numbers alone, as instances. Printed by wip/gentypes.py. -/
import Derived.Test.YtagpmpbmfjaiiaaM2
set_option linter.unusedVariables false
set_option linter.unusedSimpArgs false
namespace Go.Proofs.Ytagpmpbmfjaiiaa
open Go.RowKit
set_option maxRecDepth 20000
instance : FdI Try.prog 7 0 0 false 1 := ⟨by kernel_rfl⟩
instance : FdI Try.prog 7 1 1 false 1 := ⟨by kernel_rfl⟩
instance : FdI Try.prog 7 2 2 false 1 := ⟨by kernel_rfl⟩
instance : FdI Try.prog 7 3 3 false 1 := ⟨by kernel_rfl⟩
instance : FdI Try.prog 8 0 0 false 1 := ⟨by kernel_rfl⟩
instance : FdI Try.prog 8 1 1 false 1 := ⟨by kernel_rfl⟩
instance : FdI Try.prog 8 2 2 false 1 := ⟨by kernel_rfl⟩
instance : FdI Try.prog 8 3 3 false 1 := ⟨by kernel_rfl⟩
instance : FdI Try.prog 13 0 0 false 1 := ⟨by kernel_rfl⟩
instance : FdI Try.prog 13 1 1 false 1 := ⟨by kernel_rfl⟩
instance : FdI Try.prog 14 0 0 false 1 := ⟨by kernel_rfl⟩
instance : FdI Try.prog 14 1 1 false 1 := ⟨by kernel_rfl⟩
instance : FdI Try.prog 18 0 0 false 1 := ⟨by kernel_rfl⟩
instance : FdI Try.prog 19 0 0 false 1 := ⟨by kernel_rfl⟩
instance : FdI Try.prog 24 0 0 false 1 := ⟨by kernel_rfl⟩
instance : FdI Try.prog 24 1 1 false 1 := ⟨by kernel_rfl⟩
instance : FdI Try.prog 25 0 0 false 1 := ⟨by kernel_rfl⟩
instance : FdI Try.prog 25 1 1 false 1 := ⟨by kernel_rfl⟩
instance : EqlI Try.prog 36 2 := ⟨by kernel_rfl, by kernel_rfl, by kernel_rfl⟩
instance : FdI Try.prog 36 0 0 false 1 := ⟨by kernel_rfl⟩
instance : FdI Try.prog 36 1 1 false 1 := ⟨by kernel_rfl⟩
instance : EqlI Try.prog 37 2 := ⟨by kernel_rfl, by kernel_rfl, by kernel_rfl⟩
instance : FdI Try.prog 37 0 0 false 1 := ⟨by kernel_rfl⟩
instance : FdI Try.prog 37 1 1 false 1 := ⟨by kernel_rfl⟩
instance : FdI Try.prog 38 0 0 true 2 := ⟨by kernel_rfl⟩
instance : FdI Try.prog 38 1 2 false 1 := ⟨by kernel_rfl⟩
instance : FdI Try.prog 39 0 0 true 2 := ⟨by kernel_rfl⟩
instance : FdI Try.prog 39 1 2 false 1 := ⟨by kernel_rfl⟩
instance : EqlI Try.prog 41 2 := ⟨by kernel_rfl, by kernel_rfl, by kernel_rfl⟩
instance : FdI Try.prog 41 0 0 false 1 := ⟨by kernel_rfl⟩
instance : FdI Try.prog 41 1 1 false 1 := ⟨by kernel_rfl⟩
instance : EqlI Try.prog 42 2 := ⟨by kernel_rfl, by kernel_rfl, by kernel_rfl⟩
instance : FdI Try.prog 42 0 0 false 1 := ⟨by kernel_rfl⟩
instance : FdI Try.prog 42 1 1 false 1 := ⟨by kernel_rfl⟩
instance : EqlI Try.prog 48 3 := ⟨by kernel_rfl, by kernel_rfl, by kernel_rfl⟩
instance : FdI Try.prog 48 0 0 false 1 := ⟨by kernel_rfl⟩
instance : FdI Try.prog 48 1 1 false 1 := ⟨by kernel_rfl⟩
instance : FdI Try.prog 48 2 2 false 1 := ⟨by kernel_rfl⟩
instance : EqlI Try.prog 49 3 := ⟨by kernel_rfl, by kernel_rfl, by kernel_rfl⟩
instance : FdI Try.prog 49 0 0 false 1 := ⟨by kernel_rfl⟩
instance : FdI Try.prog 49 1 1 false 1 := ⟨by kernel_rfl⟩
instance : FdI Try.prog 49 2 2 false 1 := ⟨by kernel_rfl⟩
instance : FdI Try.prog 55 0 0 true 2 := ⟨by kernel_rfl⟩
instance : FdI Try.prog 56 0 0 true 2 := ⟨by kernel_rfl⟩
instance : ElI Try.prog 63 512 false 1 := ⟨by kernel_rfl⟩
instance : EqlI Try.prog 87 2 := ⟨by kernel_rfl, by kernel_rfl, by kernel_rfl⟩
instance : ElI Try.prog 87 2 false 1 := ⟨by kernel_rfl⟩
instance : FdI Try.prog 90 0 0 false 1 := ⟨by kernel_rfl⟩
instance : FdI Try.prog 90 1 1 false 1 := ⟨by kernel_rfl⟩
instance : FdI Try.prog 90 2 2 false 1 := ⟨by kernel_rfl⟩
instance : FdI Try.prog 90 3 3 false 1 := ⟨by kernel_rfl⟩
instance : FdI Try.prog 91 0 0 false 1 := ⟨by kernel_rfl⟩
instance : FdI Try.prog 91 1 1 false 1 := ⟨by kernel_rfl⟩
instance : FdI Try.prog 91 2 2 false 1 := ⟨by kernel_rfl⟩
instance : FdI Try.prog 91 3 3 false 1 := ⟨by kernel_rfl⟩
instance : ElI Try.prog 92 0 false 1 := ⟨by kernel_rfl⟩
instance : FdI Try.prog 102 0 0 false 1 := ⟨by kernel_rfl⟩
instance : FdI Try.prog 102 1 1 false 1 := ⟨by kernel_rfl⟩
instance : FdI Try.prog 102 2 2 false 1 := ⟨by kernel_rfl⟩
instance : FdI Try.prog 102 3 3 false 1 := ⟨by kernel_rfl⟩
instance : FdI Try.prog 102 4 4 false 1 := ⟨by kernel_rfl⟩
instance : FdI Try.prog 102 5 5 false 1 := ⟨by kernel_rfl⟩
instance : FdI Try.prog 102 6 6 false 1 := ⟨by kernel_rfl⟩
instance : FdI Try.prog 102 7 7 false 1 := ⟨by kernel_rfl⟩
instance : FdI Try.prog 102 8 8 false 1 := ⟨by kernel_rfl⟩
instance : FdI Try.prog 102 9 9 false 1 := ⟨by kernel_rfl⟩
instance : FdI Try.prog 102 10 10 false 1 := ⟨by kernel_rfl⟩
instance : FdI Try.prog 103 0 0 false 1 := ⟨by kernel_rfl⟩
instance : FdI Try.prog 103 1 1 false 1 := ⟨by kernel_rfl⟩
instance : FdI Try.prog 103 2 2 false 1 := ⟨by kernel_rfl⟩
instance : FdI Try.prog 103 3 3 false 1 := ⟨by kernel_rfl⟩
instance : FdI Try.prog 103 4 4 false 1 := ⟨by kernel_rfl⟩
instance : FdI Try.prog 103 5 5 false 1 := ⟨by kernel_rfl⟩
instance : FdI Try.prog 103 6 6 false 1 := ⟨by kernel_rfl⟩
instance : FdI Try.prog 103 7 7 false 1 := ⟨by kernel_rfl⟩
instance : FdI Try.prog 103 8 8 false 1 := ⟨by kernel_rfl⟩
instance : FdI Try.prog 103 9 9 false 1 := ⟨by kernel_rfl⟩
instance : FdI Try.prog 103 10 10 false 1 := ⟨by kernel_rfl⟩
end Go.Proofs.Ytagpmpbmfjaiiaa
