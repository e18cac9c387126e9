/- The arguments of the laws on growths, opened. Printed by wip/gensaid.py kinds growth / growth. -/
import Derived.Test.YtfcfmpdpjmbcnaaGreatMo
set_option linter.unusedVariables false
set_option linter.unusedSimpArgs false
namespace Go.Proofs.YtfcfmpdpjmbcnaaGreat
open Go.RowKit Go.ChangeShapes Go.WideShapes Go.ChangeAt
set_option maxRecDepth 100000

theorem sh_growth {d : Nat} {cs : List DV} (h : Shp Tryz.prog (d + 4) 28 cs) : ∃ (a0 : List Int) (a1 : List (List Int)), cs = [isl a0, .slice a1.length (a1.map llC).flatten] ∧ (a0.length ≤ 140737488355328 ∧ ∀ x ∈ a0, I64 x) ∧ (a1.length ≤ 140737488355328 ∧ ∀ x ∈ a1, LlF x) := by
  obtain ⟨css, rfl, c0, l0, rfl, s0, c1, l1, rfl, s1, rfl⟩ := shp_struct Tryz.underlying28 h
  obtain ⟨a0, rfl, ha0⟩ := sh_ints (d := d + 1) s0
  obtain ⟨a1, rfl, ha1⟩ := sh_lists (d := d + 0) s1
  exact ⟨a0, a1, rfl, ha0, ha1⟩

theorem ar_growth {cs : List DV} (h : Shp Tryz.prog 10 28 cs) : ∃ (a0 : List Int) (a1 : List (List Int)), argOf Tryz.prog 28 cs = .agg [isl a0, .slice a1.length (a1.map llC).flatten] ∧ (a0.length ≤ 140737488355328 ∧ ∀ x ∈ a0, I64 x) ∧ (a1.length ≤ 140737488355328 ∧ ∀ x ∈ a1, LlF x) := by
  obtain ⟨a0, a1, rfl, hf⟩ := sh_growth (d := 6) h
  refine ⟨a0, a1, ?_, hf⟩
  have : aggB Tryz.prog 28 = true := by kernel_rfl
  unfold argOf; rw [this]; rfl

end Go.Proofs.YtfcfmpdpjmbcnaaGreat
