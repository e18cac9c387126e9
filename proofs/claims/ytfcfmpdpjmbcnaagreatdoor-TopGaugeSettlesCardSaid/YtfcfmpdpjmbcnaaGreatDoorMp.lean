/- The arguments of the laws, opened. Printed by wip/gensaid.py. -/
import Derived.Test.YtfcfmpdpjmbcnaaGreatDoorSe
set_option linter.unusedVariables false
set_option linter.unusedSimpArgs false
namespace Go.Proofs.YtfcfmpdpjmbcnaaGreatDoor
open Go.RowKit Go.ChangeShapes Go.WideShapes Go.ChangeAt
set_option maxRecDepth 100000

theorem own : ownKnob Tryz.prog.godebug = none := by kernel_rfl
theorem laid : laidOutB Tryz.prog = true := by kernel_rfl
theorem shp_list {α : Type} {P : Program} {e t : TypeId} {d : Nat} {cs : List DV} (f : α → List DV) (Q : α → Prop) (hby : Nat.ble 1 (P.bytesOf e) = true) (hu : P.underlying t = some (.slice e)) (hsh : ∀ c, Shp P d e c → ∃ a, c = f a ∧ Q a) (h : Shp P (d + 1) t cs) : ∃ xs : List α, cs = [.slice xs.length (xs.map f).flatten] ∧ xs.length ≤ 140737488355328 ∧ ∀ x ∈ xs, Q x := by
  obtain ⟨css, rfl, h1, h2⟩ := shp_slice hu h
  have hby := Nat.le_of_ble_eq_true hby
  unfold reachBytes at h1
  have h3 : css.length * 1 ≤ css.length * P.bytesOf e := Nat.mul_le_mul_left _ hby
  have key : ∀ css : List (List DV), (∀ c ∈ css, Shp P d e c) → ∃ xs : List α, css.flatten = (xs.map f).flatten ∧ xs.length = css.length ∧ ∀ x ∈ xs, Q x := by
    intro css
    induction css with
    | nil => intro _; exact ⟨[], rfl, rfl, by simp⟩
    | cons c css ih =>
      intro h
      obtain ⟨xs, i1, i2, i3⟩ := ih fun c hc => h c (List.mem_cons_of_mem _ hc)
      obtain ⟨n, rfl, hn⟩ := hsh c (h c List.mem_cons_self)
      refine ⟨n :: xs, by rw [List.flatten_cons, i1]; rfl, by simp [i2], fun x hx => ?_⟩
      rcases List.mem_cons.1 hx with rfl | hx
      · exact hn
      · exact i3 x hx
  obtain ⟨xs, k1, k2, k3⟩ := key css h2
  exact ⟨xs, by rw [k1, k2], by omega, k3⟩
def FrF (f : Int × Int) : Prop := I64 f.1 ∧ I64 f.2

def LlF (l : List Int) : Prop := l.length ≤ 140737488355328 ∧ ∀ x ∈ l, I64 x
theorem sh_int {d : Nat} {cs : List DV} (h : Shp Tryz.prog (d + 1) 3 cs) : ∃ (a0 : Int), cs = [I a0] ∧ I64 a0 := by
  obtain ⟨n, h1, h2⟩ := shp_int Tryz.underlying3 h
  exact ⟨n, h1, h2⟩

theorem sh_ints {d : Nat} {cs : List DV} (h : Shp Tryz.prog (d + 2) 37 cs) : ∃ (a0 : List Int), cs = [isl a0] ∧ (a0.length ≤ 140737488355328 ∧ ∀ x ∈ a0, I64 x) := by
  obtain ⟨n, h1, h2, h3⟩ := shp_ints (by kernel_rfl) Tryz.underlying37 Tryz.underlying3 h
  exact ⟨n, h1, h2, h3⟩

theorem sh_range {d : Nat} {cs : List DV} (h : Shp Tryz.prog (d + 2) 64 cs) : ∃ (a0 : Int) (a1 : Int), cs = [I a0, I a1] ∧ I64 a0 ∧ I64 a1 := by
  obtain ⟨css, rfl, c0, l0, rfl, s0, c1, l1, rfl, s1, rfl⟩ := shp_struct Tryz.underlying64 h
  obtain ⟨a0, rfl, ha0⟩ := sh_int (d := d + 0) s0
  obtain ⟨a1, rfl, ha1⟩ := sh_int (d := d + 0) s1
  exact ⟨a0, a1, rfl, ha0, ha1⟩

theorem sh_rgs {d : Nat} {cs : List DV} (h : Shp Tryz.prog (d + 3) 22 cs) : ∃ (a0 : List (Int × Int)), cs = [.slice a0.length (a0.map frC).flatten] ∧ (a0.length ≤ 140737488355328 ∧ ∀ x ∈ a0, FrF x) := by
  obtain ⟨n, h1, h2, h3⟩ := shp_list frC FrF (by kernel_rfl) Tryz.underlying22 (fun c hc => by
    obtain ⟨a0, a1, rfl, ha0, ha1⟩ := sh_range (d := d) hc
    exact ⟨(a0, a1), rfl, ha0, ha1⟩) h
  exact ⟨n, h1, h2, h3⟩

theorem sh_loop {d : Nat} {cs : List DV} (h : Shp Tryz.prog (d + 4) 24 cs) : ∃ (a0 : List (Int × Int)) (a1 : Int), cs = [.slice a0.length (a0.map frC).flatten, I a1] ∧ (a0.length ≤ 140737488355328 ∧ ∀ x ∈ a0, FrF x) ∧ I64 a1 := by
  obtain ⟨css, rfl, c0, l0, rfl, s0, c1, l1, rfl, s1, rfl⟩ := shp_struct Tryz.underlying24 h
  obtain ⟨a0, rfl, ha0⟩ := sh_rgs (d := d + 0) s0
  obtain ⟨a1, rfl, ha1⟩ := sh_int (d := d + 2) s1
  exact ⟨a0, a1, rfl, ha0, ha1⟩

theorem sh_proof {d : Nat} {cs : List DV} (h : Shp Tryz.prog (d + 3) 39 cs) : ∃ (a0 : Int) (a1 : List Int), cs = [I a0, isl a1] ∧ I64 a0 ∧ (a1.length ≤ 140737488355328 ∧ ∀ x ∈ a1, I64 x) := by
  obtain ⟨css, rfl, c0, l0, rfl, s0, c1, l1, rfl, s1, rfl⟩ := shp_struct Tryz.underlying39 h
  obtain ⟨a0, rfl, ha0⟩ := sh_int (d := d + 1) s0
  obtain ⟨a1, rfl, ha1⟩ := sh_ints (d := d + 0) s1
  exact ⟨a0, a1, rfl, ha0, ha1⟩

theorem sh_lists {d : Nat} {cs : List DV} (h : Shp Tryz.prog (d + 3) 40 cs) : ∃ (a0 : List (List Int)), cs = [.slice a0.length (a0.map llC).flatten] ∧ (a0.length ≤ 140737488355328 ∧ ∀ x ∈ a0, LlF x) := by
  obtain ⟨n, h1, h2, h3⟩ := shp_list llC LlF (by kernel_rfl) Tryz.underlying40 (fun c hc => by
    obtain ⟨a0, rfl, ha0⟩ := sh_ints (d := d) hc
    exact ⟨a0, rfl, ha0⟩) h
  exact ⟨n, h1, h2, h3⟩

theorem ar_loop {cs : List DV} (h : Shp Tryz.prog 10 24 cs) : ∃ (a0 : List (Int × Int)) (a1 : Int), argOf Tryz.prog 24 cs = .agg [.slice a0.length (a0.map frC).flatten, I a1] ∧ (a0.length ≤ 140737488355328 ∧ ∀ x ∈ a0, FrF x) ∧ I64 a1 := by
  obtain ⟨a0, a1, rfl, hf⟩ := sh_loop (d := 6) h
  refine ⟨a0, a1, ?_, hf⟩
  have : aggB Tryz.prog 24 = true := by kernel_rfl
  unfold argOf; rw [this]; rfl

theorem ar_proof {cs : List DV} (h : Shp Tryz.prog 10 39 cs) : ∃ (a0 : Int) (a1 : List Int), argOf Tryz.prog 39 cs = .agg [I a0, isl a1] ∧ I64 a0 ∧ (a1.length ≤ 140737488355328 ∧ ∀ x ∈ a1, I64 x) := by
  obtain ⟨a0, a1, rfl, hf⟩ := sh_proof (d := 7) h
  refine ⟨a0, a1, ?_, hf⟩
  have : aggB Tryz.prog 39 = true := by kernel_rfl
  unfold argOf; rw [this]; rfl

end Go.Proofs.YtfcfmpdpjmbcnaaGreatDoor
/- The arguments of the laws on growths, opened. Printed by wip/gensaid.py kinds growth / growth. -/
set_option linter.unusedVariables false
set_option linter.unusedSimpArgs false
namespace Go.Proofs.YtfcfmpdpjmbcnaaGreatDoor
open Go.RowKit Go.ChangeShapes Go.WideShapes Go.ChangeAt
set_option maxRecDepth 100000

theorem sh_growth {d : Nat} {cs : List DV} (h : Shp Tryz.prog (d + 4) 42 cs) : ∃ (a0 : List Int) (a1 : List (List Int)), cs = [isl a0, .slice a1.length (a1.map llC).flatten] ∧ (a0.length ≤ 140737488355328 ∧ ∀ x ∈ a0, I64 x) ∧ (a1.length ≤ 140737488355328 ∧ ∀ x ∈ a1, LlF x) := by
  obtain ⟨css, rfl, c0, l0, rfl, s0, c1, l1, rfl, s1, rfl⟩ := shp_struct Tryz.underlying42 h
  obtain ⟨a0, rfl, ha0⟩ := sh_ints (d := d + 1) s0
  obtain ⟨a1, rfl, ha1⟩ := sh_lists (d := d + 0) s1
  exact ⟨a0, a1, rfl, ha0, ha1⟩

theorem ar_growth {cs : List DV} (h : Shp Tryz.prog 10 42 cs) : ∃ (a0 : List Int) (a1 : List (List Int)), argOf Tryz.prog 42 cs = .agg [isl a0, .slice a1.length (a1.map llC).flatten] ∧ (a0.length ≤ 140737488355328 ∧ ∀ x ∈ a0, I64 x) ∧ (a1.length ≤ 140737488355328 ∧ ∀ x ∈ a1, LlF x) := by
  obtain ⟨a0, a1, rfl, hf⟩ := sh_growth (d := 6) h
  refine ⟨a0, a1, ?_, hf⟩
  have : aggB Tryz.prog 42 = true := by kernel_rfl
  unfold argOf; rw [this]; rfl

end Go.Proofs.YtfcfmpdpjmbcnaaGreatDoor
