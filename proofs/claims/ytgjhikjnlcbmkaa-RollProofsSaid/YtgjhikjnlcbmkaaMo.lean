/- The arguments of the laws, opened. Printed by wip/gensaid.py. -/
import Derived.Test.YtgjhikjnlcbmkaaM3
set_option linter.unusedVariables false
set_option linter.unusedSimpArgs false
namespace Go.Proofs.Ytgjhikjnlcbmkaa
open Go.RowKit Go.ChangeShapes Go.WideShapes Go.ChangeAt
set_option maxRecDepth 100000

theorem own : ownKnob Try.prog.godebug = none := by kernel_rfl
theorem laid : laidOutB Try.prog = true := by kernel_rfl
theorem len2 {α : Type} {l : List α} (h : l.length = 2) : ∃ a b, l = [a, b] := by
  match l, h with
  | [a, b], _ => exact ⟨a, b, rfl⟩
theorem len4 {α : Type} {l : List α} (h : l.length = 4) : ∃ a b c d, l = [a, b, c, d] := by
  match l, h with
  | [a, b, c, d], _ => exact ⟨a, b, c, d, rfl⟩
theorem sh_ints {d : Nat} {cs : List DV} (h : Shp Try.prog (d + 2) 22 cs) : ∃ (a0 : List Int), cs = [isl a0] ∧ (a0.length ≤ 140737488355328 ∧ ∀ x ∈ a0, I64 x) := by
  obtain ⟨n, h1, h2, h3⟩ := shp_ints (by kernel_rfl) Try.underlying22 Try.underlying3 h
  exact ⟨n, h1, h2, h3⟩

theorem sh_string {d : Nat} {cs : List DV} (h : Shp Try.prog (d + 1) 9 cs) : ∃ (a0 : ByteArray), cs = [S a0] ∧ a0.size ≤ 140737488355328 := by
  obtain ⟨n, h1, h2⟩ := shp_string Try.underlying9 h
  exact ⟨n, h1, h2⟩

theorem sh_int {d : Nat} {cs : List DV} (h : Shp Try.prog (d + 1) 3 cs) : ∃ (a0 : Int), cs = [I a0] ∧ I64 a0 := by
  obtain ⟨n, h1, h2⟩ := shp_int Try.underlying3 h
  exact ⟨n, h1, h2⟩

theorem sh_drum {d : Nat} {cs : List DV} (h : Shp Try.prog (d + 2) 24 cs) : ∃ (a0 : ByteArray) (a1 : Int) (a2 : Int), cs = [S a0, I a1, I a2] ∧ a0.size ≤ 140737488355328 ∧ I64 a1 ∧ I64 a2 := by
  obtain ⟨css, rfl, c0, l0, rfl, s0, c1, l1, rfl, s1, c2, l2, rfl, s2, rfl⟩ := shp_struct Try.underlying24 h
  obtain ⟨a0, rfl, ha0⟩ := sh_string (d := d + 0) s0
  obtain ⟨a1, rfl, ha1⟩ := sh_int (d := d + 0) s1
  obtain ⟨a2, rfl, ha2⟩ := sh_int (d := d + 0) s2
  exact ⟨a0, a1, a2, rfl, ha0, ha1, ha2⟩

theorem sh_gauss {d : Nat} {cs : List DV} (h : Shp Try.prog (d + 2) 27 cs) : ∃ (a0 : Int) (a1 : Int), cs = [I a0, I a1] ∧ I64 a0 ∧ I64 a1 := by
  obtain ⟨css, rfl, c0, l0, rfl, s0, c1, l1, rfl, s1, rfl⟩ := shp_struct Try.underlying27 h
  obtain ⟨a0, rfl, ha0⟩ := sh_int (d := d + 0) s0
  obtain ⟨a1, rfl, ha1⟩ := sh_int (d := d + 0) s1
  exact ⟨a0, a1, rfl, ha0, ha1⟩

theorem sh_drums2 {d : Nat} {cs : List DV} (h : Shp Try.prog (d + 3) 25 cs) : ∃ (a0 : ByteArray) (a1 : Int) (a2 : Int) (a3 : ByteArray) (a4 : Int) (a5 : Int), cs = [S a0, I a1, I a2, S a3, I a4, I a5] ∧ a0.size ≤ 140737488355328 ∧ I64 a1 ∧ I64 a2 ∧ a3.size ≤ 140737488355328 ∧ I64 a4 ∧ I64 a5 := by
  obtain ⟨css, rfl, hl, hs⟩ := shp_array Try.underlying25 h
  obtain ⟨c0, c1, rfl⟩ := len2 hl
  have s0 := hs c0 (by simp)
  have s1 := hs c1 (by simp)
  obtain ⟨a0, a1, a2, rfl, ha0, ha1, ha2⟩ := sh_drum (d := d + 0) s0
  obtain ⟨a3, a4, a5, rfl, ha3, ha4, ha5⟩ := sh_drum (d := d + 0) s1
  exact ⟨a0, a1, a2, a3, a4, a5, rfl, ha0, ha1, ha2, ha3, ha4, ha5⟩

theorem sh_two {d : Nat} {cs : List DV} (h : Shp Try.prog (d + 3) 29 cs) : ∃ (a0 : Int) (a1 : Int) (a2 : Int) (a3 : Int), cs = [I a0, I a1, I a2, I a3] ∧ I64 a0 ∧ I64 a1 ∧ I64 a2 ∧ I64 a3 := by
  obtain ⟨css, rfl, c0, l0, rfl, s0, c1, l1, rfl, s1, rfl⟩ := shp_struct Try.underlying29 h
  obtain ⟨a0, a1, rfl, ha0, ha1⟩ := sh_gauss (d := d + 0) s0
  obtain ⟨a2, a3, rfl, ha2, ha3⟩ := sh_gauss (d := d + 0) s1
  exact ⟨a0, a1, a2, a3, rfl, ha0, ha1, ha2, ha3⟩

theorem sh_arr4 {d : Nat} {cs : List DV} (h : Shp Try.prog (d + 2) 32 cs) : ∃ (a0 : Int) (a1 : Int) (a2 : Int) (a3 : Int), cs = [I a0, I a1, I a2, I a3] ∧ I64 a0 ∧ I64 a1 ∧ I64 a2 ∧ I64 a3 := by
  obtain ⟨css, rfl, hl, hs⟩ := shp_array Try.underlying32 h
  obtain ⟨c0, c1, c2, c3, rfl⟩ := len4 hl
  have s0 := hs c0 (by simp)
  have s1 := hs c1 (by simp)
  have s2 := hs c2 (by simp)
  have s3 := hs c3 (by simp)
  obtain ⟨a0, rfl, ha0⟩ := sh_int (d := d + 0) s0
  obtain ⟨a1, rfl, ha1⟩ := sh_int (d := d + 0) s1
  obtain ⟨a2, rfl, ha2⟩ := sh_int (d := d + 0) s2
  obtain ⟨a3, rfl, ha3⟩ := sh_int (d := d + 0) s3
  exact ⟨a0, a1, a2, a3, rfl, ha0, ha1, ha2, ha3⟩

theorem sh_fit {d : Nat} {cs : List DV} (h : Shp Try.prog (d + 3) 34 cs) : ∃ (a0 : Int) (a1 : Int) (a2 : Int) (a3 : Int) (a4 : Int), cs = [I a0, I a1, I a2, I a3, I a4] ∧ I64 a0 ∧ I64 a1 ∧ I64 a2 ∧ I64 a3 ∧ I64 a4 := by
  obtain ⟨css, rfl, c0, l0, rfl, s0, c1, l1, rfl, s1, rfl⟩ := shp_struct Try.underlying34 h
  obtain ⟨a0, rfl, ha0⟩ := sh_int (d := d + 1) s0
  obtain ⟨a1, a2, a3, a4, rfl, ha1, ha2, ha3, ha4⟩ := sh_arr4 (d := d + 0) s1
  exact ⟨a0, a1, a2, a3, a4, rfl, ha0, ha1, ha2, ha3, ha4⟩

theorem ar_ints {cs : List DV} (h : Shp Try.prog 10 22 cs) : ∃ (a0 : List Int), argOf Try.prog 22 cs = isl a0 ∧ (a0.length ≤ 140737488355328 ∧ ∀ x ∈ a0, I64 x) := by
  obtain ⟨a0, rfl, hf⟩ := sh_ints (d := 8) h
  refine ⟨a0, ?_, hf⟩
  have : aggB Try.prog 22 = false := by kernel_rfl
  unfold argOf; rw [this]; rfl

theorem ar_drums2 {cs : List DV} (h : Shp Try.prog 10 25 cs) : ∃ (a0 : ByteArray) (a1 : Int) (a2 : Int) (a3 : ByteArray) (a4 : Int) (a5 : Int), argOf Try.prog 25 cs = .agg [S a0, I a1, I a2, S a3, I a4, I a5] ∧ a0.size ≤ 140737488355328 ∧ I64 a1 ∧ I64 a2 ∧ a3.size ≤ 140737488355328 ∧ I64 a4 ∧ I64 a5 := by
  obtain ⟨a0, a1, a2, a3, a4, a5, rfl, hf⟩ := sh_drums2 (d := 7) h
  refine ⟨a0, a1, a2, a3, a4, a5, ?_, hf⟩
  have : aggB Try.prog 25 = true := by kernel_rfl
  unfold argOf; rw [this]; rfl

theorem ar_two {cs : List DV} (h : Shp Try.prog 10 29 cs) : ∃ (a0 : Int) (a1 : Int) (a2 : Int) (a3 : Int), argOf Try.prog 29 cs = .agg [I a0, I a1, I a2, I a3] ∧ I64 a0 ∧ I64 a1 ∧ I64 a2 ∧ I64 a3 := by
  obtain ⟨a0, a1, a2, a3, rfl, hf⟩ := sh_two (d := 7) h
  refine ⟨a0, a1, a2, a3, ?_, hf⟩
  have : aggB Try.prog 29 = true := by kernel_rfl
  unfold argOf; rw [this]; rfl

theorem ar_fit {cs : List DV} (h : Shp Try.prog 10 34 cs) : ∃ (a0 : Int) (a1 : Int) (a2 : Int) (a3 : Int) (a4 : Int), argOf Try.prog 34 cs = .agg [I a0, I a1, I a2, I a3, I a4] ∧ I64 a0 ∧ I64 a1 ∧ I64 a2 ∧ I64 a3 ∧ I64 a4 := by
  obtain ⟨a0, a1, a2, a3, a4, rfl, hf⟩ := sh_fit (d := 7) h
  refine ⟨a0, a1, a2, a3, a4, ?_, hf⟩
  have : aggB Try.prog 34 = true := by kernel_rfl
  unfold argOf; rw [this]; rfl

end Go.Proofs.Ytgjhikjnlcbmkaa
