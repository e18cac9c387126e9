/- TopRollResidual: the arguments opened. -/
import Derived.Test.YtocnbbjcfgfgdaaGreatDoorQz
set_option linter.unusedVariables false
set_option linter.unusedSimpArgs false
namespace Go.Proofs.YtocnbbjcfgfgdaaGreatDoor
open Go.RowKit Go.ChangeShapes Go.WideShapes Go.ChangeAt
set_option maxRecDepth 100000

theorem sh_gauss2 {d : Nat} {cs : List DV} (h : Shp Tryz.prog (d + 3) 36 cs) : ∃ (a0 : Int) (a1 : Int) (a2 : Int) (a3 : Int), cs = [I a0, I a1, I a2, I a3] ∧ I64 a0 ∧ I64 a1 ∧ I64 a2 ∧ I64 a3 := by
  obtain ⟨css, rfl, hl, hs⟩ := shp_array Tryz.underlying36 h
  obtain ⟨c0, c1, rfl⟩ := len2 hl
  have s0 := hs c0 (by simp)
  have s1 := hs c1 (by simp)
  obtain ⟨a0, a1, rfl, ha0, ha1⟩ := sh_gauss (d := d + 0) s0
  obtain ⟨a2, a3, rfl, ha2, ha3⟩ := sh_gauss (d := d + 0) s1
  exact ⟨a0, a1, a2, a3, rfl, ha0, ha1, ha2, ha3⟩

theorem sh_mill {d : Nat} {cs : List DV} (h : Shp Tryz.prog (d + 4) 38 cs) : ∃ (a0 : ByteArray) (a1 : Int) (a2 : Int) (a3 : ByteArray) (a4 : Int) (a5 : Int) (a6 : Int) (a7 : Int) (a8 : Int) (a9 : Int) (a10 : Int) (a11 : Int), cs = [S a0, I a1, I a2, S a3, I a4, I a5, I a6, I a7, I a8, I a9, I a10, I a11] ∧ a0.size ≤ 140737488355328 ∧ I64 a1 ∧ I64 a2 ∧ a3.size ≤ 140737488355328 ∧ I64 a4 ∧ I64 a5 ∧ I64 a6 ∧ I64 a7 ∧ I64 a8 ∧ I64 a9 ∧ I64 a10 ∧ I64 a11 := by
  obtain ⟨css, rfl, c0, l0, rfl, s0, c1, l1, rfl, s1, c2, l2, rfl, s2, c3, l3, rfl, s3, rfl⟩ := shp_struct Tryz.underlying38 h
  obtain ⟨a0, a1, a2, a3, a4, a5, rfl, ha0, ha1, ha2, ha3, ha4, ha5⟩ := sh_drums2 (d := d + 0) s0
  obtain ⟨a6, a7, a8, a9, rfl, ha6, ha7, ha8, ha9⟩ := sh_gauss2 (d := d + 0) s1
  obtain ⟨a10, rfl, ha10⟩ := sh_int (d := d + 2) s2
  obtain ⟨a11, rfl, ha11⟩ := sh_int (d := d + 2) s3
  exact ⟨a0, a1, a2, a3, a4, a5, a6, a7, a8, a9, a10, a11, rfl, ha0, ha1, ha2, ha3, ha4, ha5, ha6, ha7, ha8, ha9, ha10, ha11⟩

theorem ar_mill {cs : List DV} (h : Shp Tryz.prog 10 38 cs) : ∃ (a0 : ByteArray) (a1 : Int) (a2 : Int) (a3 : ByteArray) (a4 : Int) (a5 : Int) (a6 : Int) (a7 : Int) (a8 : Int) (a9 : Int) (a10 : Int) (a11 : Int), argOf Tryz.prog 38 cs = .agg [S a0, I a1, I a2, S a3, I a4, I a5, I a6, I a7, I a8, I a9, I a10, I a11] ∧ a0.size ≤ 140737488355328 ∧ I64 a1 ∧ I64 a2 ∧ a3.size ≤ 140737488355328 ∧ I64 a4 ∧ I64 a5 ∧ I64 a6 ∧ I64 a7 ∧ I64 a8 ∧ I64 a9 ∧ I64 a10 ∧ I64 a11 := by
  obtain ⟨a0, a1, a2, a3, a4, a5, a6, a7, a8, a9, a10, a11, rfl, hf⟩ := sh_mill (d := 6) h
  refine ⟨a0, a1, a2, a3, a4, a5, a6, a7, a8, a9, a10, a11, ?_, hf⟩
  have : aggB Tryz.prog 38 = true := by kernel_rfl
  unfold argOf; rw [this]; rfl

end Go.Proofs.YtocnbbjcfgfgdaaGreatDoor
