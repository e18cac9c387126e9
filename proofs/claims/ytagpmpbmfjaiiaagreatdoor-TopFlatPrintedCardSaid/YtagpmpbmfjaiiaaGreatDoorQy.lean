/- The arguments of TopFlatPrinted, opened. Printed by wip/gensaid.py. -/
import Derived.Test.YtagpmpbmfjaiiaaGreatDoorQz
set_option linter.unusedVariables false
set_option linter.unusedSimpArgs false
namespace Go.Proofs.YtagpmpbmfjaiiaaGreatDoor
open Go.RowKit Go.ChangeShapes Go.WideShapes Go.ChangeAt
set_option maxRecDepth 100000

theorem sh_day {d : Nat} {cs : List DV} (h : Shp Tryz.prog (d + 5) 50 cs) : ∃ (a0 : List (Int × Int)) (a1 : List Strp) (a2 : List Int) (a3 : Int), cs = [.slice a0.length (a0.map frC).flatten, .slice a1.length (a1.map strC).flatten, isl a2, I a3] ∧ (a0.length ≤ 140737488355328 ∧ ∀ x ∈ a0, FrF x) ∧ (a1.length ≤ 140737488355328 ∧ ∀ x ∈ a1, StrF x) ∧ (a2.length ≤ 140737488355328 ∧ ∀ x ∈ a2, I64 x) ∧ I64 a3 := by
  obtain ⟨css, rfl, c0, l0, rfl, s0, c1, l1, rfl, s1, c2, l2, rfl, s2, c3, l3, rfl, s3, rfl⟩ := shp_struct Tryz.underlying50 h
  obtain ⟨a0, rfl, ha0⟩ := sh_points (d := d + 1) s0
  obtain ⟨a1, rfl, ha1⟩ := sh_wears (d := d + 0) s1
  obtain ⟨a2, rfl, ha2⟩ := sh_ints (d := d + 2) s2
  obtain ⟨a3, rfl, ha3⟩ := sh_int (d := d + 3) s3
  exact ⟨a0, a1, a2, a3, rfl, ha0, ha1, ha2, ha3⟩

theorem ar_day {cs : List DV} (h : Shp Tryz.prog 10 50 cs) : ∃ (a0 : List (Int × Int)) (a1 : List Strp) (a2 : List Int) (a3 : Int), argOf Tryz.prog 50 cs = .agg [.slice a0.length (a0.map frC).flatten, .slice a1.length (a1.map strC).flatten, isl a2, I a3] ∧ (a0.length ≤ 140737488355328 ∧ ∀ x ∈ a0, FrF x) ∧ (a1.length ≤ 140737488355328 ∧ ∀ x ∈ a1, StrF x) ∧ (a2.length ≤ 140737488355328 ∧ ∀ x ∈ a2, I64 x) ∧ I64 a3 := by
  obtain ⟨a0, a1, a2, a3, rfl, hf⟩ := sh_day (d := 5) h
  refine ⟨a0, a1, a2, a3, ?_, hf⟩
  have : aggB Tryz.prog 50 = true := by kernel_rfl
  unfold argOf; rw [this]; rfl

end Go.Proofs.YtagpmpbmfjaiiaaGreatDoor
