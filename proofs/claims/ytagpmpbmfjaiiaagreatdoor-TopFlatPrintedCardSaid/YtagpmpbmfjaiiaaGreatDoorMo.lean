/- The arguments of the laws, opened. Printed by wip/gensaid.py. -/
import Derived.Test.YtagpmpbmfjaiiaaGreatDoorPB
set_option linter.unusedVariables false
set_option linter.unusedSimpArgs false
namespace Go.Proofs.YtagpmpbmfjaiiaaGreatDoor
open Go.RowKit Go.ChangeShapes Go.WideShapes Go.ChangeAt
set_option maxRecDepth 100000

theorem own : ownKnob Tryz.prog.godebug = none := by kernel_rfl
theorem laid : laidOutB Tryz.prog = true := by kernel_rfl
theorem len2 {α : Type} {l : List α} (h : l.length = 2) : ∃ a b, l = [a, b] := by
  match l, h with
  | [a, b], _ => exact ⟨a, b, rfl⟩
theorem len4 {α : Type} {l : List α} (h : l.length = 4) : ∃ a b c d, l = [a, b, c, d] := by
  match l, h with
  | [a, b, c, d], _ => exact ⟨a, b, c, d, rfl⟩
theorem len3 {α : Type} {l : List α} (h : l.length = 3) : ∃ a b c, l = [a, b, c] := by
  match l, h with
  | [a, b, c], _ => exact ⟨a, b, c, rfl⟩
theorem shp_list {α : Type} {P : Program} {e t : TypeId} {d : Nat} {cs : List DV} (f : α → List DV) (Q : α → Prop) (hby : Nat.ble 1 (P.bytesOf e) = true) (hu : P.underlying t = some (.slice e)) (hsh : ∀ c, Shp P d e c → ∃ a, c = f a ∧ Q a) (h : Shp P (d + 1) t cs) : ∃ xs : List α, cs = [.slice xs.length (xs.map f).flatten] ∧ xs.length ≤ 140737488355328 ∧ ∀ x ∈ xs, Q x := by
  obtain ⟨css, rfl, h1, h2⟩ := shp_slice hu h
  have hby := Nat.le_of_ble_eq_true hby
  unfold reachBytes at h1
  have h3 : css.length * 1 ≤ css.length * P.bytesOf e := Nat.mul_le_mul_left _ hby
  have key : ∀ css : List (List DV), (∀ c ∈ css, Shp P d e c) → ∃ xs : List α, css.flatten = (xs.map f).flatten ∧ xs.length = css.length ∧ ∀ x ∈ xs, Q x := by
    intro css
    induction css with
    | nil => intro _; exact ⟨[], rfl, rfl, by simp⟩
    | cons c css ih =>
      intro h
      obtain ⟨xs, i1, i2, i3⟩ := ih fun c hc => h c (List.mem_cons_of_mem _ hc)
      obtain ⟨n, rfl, hn⟩ := hsh c (h c List.mem_cons_self)
      refine ⟨n :: xs, by rw [List.flatten_cons, i1]; rfl, by simp [i2], fun x hx => ?_⟩
      rcases List.mem_cons.1 hx with rfl | hx
      · exact hn
      · exact i3 x hx
  obtain ⟨xs, k1, k2, k3⟩ := key css h2
  exact ⟨xs, by rw [k1, k2], by omega, k3⟩
abbrev frC (f : Int × Int) : List DV := [I f.1, I f.2]
def FrF (f : Int × Int) : Prop := I64 f.1 ∧ I64 f.2
structure Strp where
  lo : Int
  hi : Int
  wear : Int
abbrev strC (s : Strp) : List DV := [I s.lo, I s.hi, I s.wear]
def StrF (s : Strp) : Prop := I64 s.lo ∧ I64 s.hi ∧ I64 s.wear
def ActF (a : Act3) : Prop := I64 a.lo ∧ I64 a.hi ∧ a.eff.length ≤ 140737488355328 ∧ ∀ x ∈ a.eff, I64 x

theorem sh_ints {d : Nat} {cs : List DV} (h : Shp Tryz.prog (d + 2) 22 cs) : ∃ (a0 : List Int), cs = [isl a0] ∧ (a0.length ≤ 140737488355328 ∧ ∀ x ∈ a0, I64 x) := by
  obtain ⟨n, h1, h2, h3⟩ := shp_ints (by kernel_rfl) Tryz.underlying22 Tryz.underlying3 h
  exact ⟨n, h1, h2, h3⟩

theorem sh_int {d : Nat} {cs : List DV} (h : Shp Tryz.prog (d + 1) 3 cs) : ∃ (a0 : Int), cs = [I a0] ∧ I64 a0 := by
  obtain ⟨n, h1, h2⟩ := shp_int Tryz.underlying3 h
  exact ⟨n, h1, h2⟩

theorem sh_range {d : Nat} {cs : List DV} (h : Shp Tryz.prog (d + 2) 73 cs) : ∃ (a0 : Int) (a1 : Int), cs = [I a0, I a1] ∧ I64 a0 ∧ I64 a1 := by
  obtain ⟨css, rfl, c0, l0, rfl, s0, c1, l1, rfl, s1, rfl⟩ := shp_struct Tryz.underlying73 h
  obtain ⟨a0, rfl, ha0⟩ := sh_int (d := d + 0) s0
  obtain ⟨a1, rfl, ha1⟩ := sh_int (d := d + 0) s1
  exact ⟨a0, a1, rfl, ha0, ha1⟩

theorem sh_actor {d : Nat} {cs : List DV} (h : Shp Tryz.prog (d + 3) 90 cs) : ∃ (a0 : Int) (a1 : Int) (a2 : List Int), cs = [I a0, I a1, isl a2] ∧ I64 a0 ∧ I64 a1 ∧ (a2.length ≤ 140737488355328 ∧ ∀ x ∈ a2, I64 x) := by
  obtain ⟨css, rfl, c0, l0, rfl, s0, c1, l1, rfl, s1, rfl⟩ := shp_struct Tryz.underlying90 h
  obtain ⟨a0, a1, rfl, ha0, ha1⟩ := sh_range (d := d + 0) s0
  obtain ⟨a2, rfl, ha2⟩ := sh_ints (d := d + 0) s1
  exact ⟨a0, a1, a2, rfl, ha0, ha1, ha2⟩

theorem sh_actors {d : Nat} {cs : List DV} (h : Shp Tryz.prog (d + 4) 23 cs) : ∃ (a0 : List Act3), cs = [.slice a0.length (a0.map actC).flatten] ∧ (a0.length ≤ 140737488355328 ∧ ∀ x ∈ a0, ActF x) := by
  obtain ⟨n, h1, h2, h3⟩ := shp_list actC ActF (by kernel_rfl) Tryz.underlying23 (fun c hc => by
    obtain ⟨a0, a1, a2, rfl, ha0, ha1, ha2⟩ := sh_actor (d := d) hc
    exact ⟨⟨a0, a1, a2⟩, rfl, ha0, ha1, ha2⟩) h
  exact ⟨n, h1, h2, h3⟩

theorem sh_rules {d : Nat} {cs : List DV} (h : Shp Tryz.prog (d + 5) 25 cs) : ∃ (a0 : List Int) (a1 : List Act3), cs = [isl a0, .slice a1.length (a1.map actC).flatten] ∧ (a0.length ≤ 140737488355328 ∧ ∀ x ∈ a0, I64 x) ∧ (a1.length ≤ 140737488355328 ∧ ∀ x ∈ a1, ActF x) := by
  obtain ⟨css, rfl, c0, l0, rfl, s0, c1, l1, rfl, s1, rfl⟩ := shp_struct Tryz.underlying25 h
  obtain ⟨a0, rfl, ha0⟩ := sh_ints (d := d + 2) s0
  obtain ⟨a1, rfl, ha1⟩ := sh_actors (d := d + 0) s1
  exact ⟨a0, a1, rfl, ha0, ha1⟩

theorem sh_heat {d : Nat} {cs : List DV} (h : Shp Tryz.prog (d + 2) 95 cs) : ∃ (a0 : Int) (a1 : Int) (a2 : Int), cs = [I a0, I a1, I a2] ∧ I64 a0 ∧ I64 a1 ∧ I64 a2 := by
  obtain ⟨css, rfl, c0, l0, rfl, s0, c1, l1, rfl, s1, c2, l2, rfl, s2, rfl⟩ := shp_struct Tryz.underlying95 h
  obtain ⟨a0, rfl, ha0⟩ := sh_int (d := d + 0) s0
  obtain ⟨a1, rfl, ha1⟩ := sh_int (d := d + 0) s1
  obtain ⟨a2, rfl, ha2⟩ := sh_int (d := d + 0) s2
  exact ⟨a0, a1, a2, rfl, ha0, ha1, ha2⟩

theorem sh_frac {d : Nat} {cs : List DV} (h : Shp Tryz.prog (d + 2) 63 cs) : ∃ (a0 : Int) (a1 : Int), cs = [I a0, I a1] ∧ I64 a0 ∧ I64 a1 := by
  obtain ⟨css, rfl, c0, l0, rfl, s0, c1, l1, rfl, s1, rfl⟩ := shp_struct Tryz.underlying63 h
  obtain ⟨a0, rfl, ha0⟩ := sh_int (d := d + 0) s0
  obtain ⟨a1, rfl, ha1⟩ := sh_int (d := d + 0) s1
  exact ⟨a0, a1, rfl, ha0, ha1⟩

theorem sh_fracs {d : Nat} {cs : List DV} (h : Shp Tryz.prog (d + 3) 76 cs) : ∃ (a0 : List (Int × Int)), cs = [.slice a0.length (a0.map frC).flatten] ∧ (a0.length ≤ 140737488355328 ∧ ∀ x ∈ a0, FrF x) := by
  obtain ⟨n, h1, h2, h3⟩ := shp_list frC FrF (by kernel_rfl) Tryz.underlying76 (fun c hc => by
    obtain ⟨a0, a1, rfl, ha0, ha1⟩ := sh_frac (d := d) hc
    exact ⟨(a0, a1), rfl, ha0, ha1⟩) h
  exact ⟨n, h1, h2, h3⟩

theorem sh_point {d : Nat} {cs : List DV} (h : Shp Tryz.prog (d + 2) 54 cs) : ∃ (a0 : Int) (a1 : Int), cs = [I a0, I a1] ∧ I64 a0 ∧ I64 a1 := by
  obtain ⟨css, rfl, c0, l0, rfl, s0, c1, l1, rfl, s1, rfl⟩ := shp_struct Tryz.underlying54 h
  obtain ⟨a0, rfl, ha0⟩ := sh_int (d := d + 0) s0
  obtain ⟨a1, rfl, ha1⟩ := sh_int (d := d + 0) s1
  exact ⟨a0, a1, rfl, ha0, ha1⟩

theorem sh_points {d : Nat} {cs : List DV} (h : Shp Tryz.prog (d + 3) 47 cs) : ∃ (a0 : List (Int × Int)), cs = [.slice a0.length (a0.map frC).flatten] ∧ (a0.length ≤ 140737488355328 ∧ ∀ x ∈ a0, FrF x) := by
  obtain ⟨n, h1, h2, h3⟩ := shp_list frC FrF (by kernel_rfl) Tryz.underlying47 (fun c hc => by
    obtain ⟨a0, a1, rfl, ha0, ha1⟩ := sh_point (d := d) hc
    exact ⟨(a0, a1), rfl, ha0, ha1⟩) h
  exact ⟨n, h1, h2, h3⟩

theorem sh_wear {d : Nat} {cs : List DV} (h : Shp Tryz.prog (d + 3) 75 cs) : ∃ (a0 : Int) (a1 : Int) (a2 : Int), cs = [I a0, I a1, I a2] ∧ I64 a0 ∧ I64 a1 ∧ I64 a2 := by
  obtain ⟨css, rfl, c0, l0, rfl, s0, c1, l1, rfl, s1, rfl⟩ := shp_struct Tryz.underlying75 h
  obtain ⟨a0, a1, rfl, ha0, ha1⟩ := sh_range (d := d + 0) s0
  obtain ⟨a2, rfl, ha2⟩ := sh_int (d := d + 1) s1
  exact ⟨a0, a1, a2, rfl, ha0, ha1, ha2⟩

theorem sh_wears {d : Nat} {cs : List DV} (h : Shp Tryz.prog (d + 4) 48 cs) : ∃ (a0 : List Strp), cs = [.slice a0.length (a0.map strC).flatten] ∧ (a0.length ≤ 140737488355328 ∧ ∀ x ∈ a0, StrF x) := by
  obtain ⟨n, h1, h2, h3⟩ := shp_list strC StrF (by kernel_rfl) Tryz.underlying48 (fun c hc => by
    obtain ⟨a0, a1, a2, rfl, ha0, ha1, ha2⟩ := sh_wear (d := d) hc
    exact ⟨⟨a0, a1, a2⟩, rfl, ha0, ha1, ha2⟩) h
  exact ⟨n, h1, h2, h3⟩

theorem ar_ints {cs : List DV} (h : Shp Tryz.prog 10 22 cs) : ∃ (a0 : List Int), argOf Tryz.prog 22 cs = isl a0 ∧ (a0.length ≤ 140737488355328 ∧ ∀ x ∈ a0, I64 x) := by
  obtain ⟨a0, rfl, hf⟩ := sh_ints (d := 8) h
  refine ⟨a0, ?_, hf⟩
  have : aggB Tryz.prog 22 = false := by kernel_rfl
  unfold argOf; rw [this]; rfl

theorem ar_int {cs : List DV} (h : Shp Tryz.prog 10 3 cs) : ∃ (a0 : Int), argOf Tryz.prog 3 cs = I a0 ∧ I64 a0 := by
  obtain ⟨a0, rfl, hf⟩ := sh_int (d := 9) h
  refine ⟨a0, ?_, hf⟩
  have : aggB Tryz.prog 3 = false := by kernel_rfl
  unfold argOf; rw [this]; rfl

theorem ar_rules {cs : List DV} (h : Shp Tryz.prog 10 25 cs) : ∃ (a0 : List Int) (a1 : List Act3), argOf Tryz.prog 25 cs = .agg [isl a0, .slice a1.length (a1.map actC).flatten] ∧ (a0.length ≤ 140737488355328 ∧ ∀ x ∈ a0, I64 x) ∧ (a1.length ≤ 140737488355328 ∧ ∀ x ∈ a1, ActF x) := by
  obtain ⟨a0, a1, rfl, hf⟩ := sh_rules (d := 5) h
  refine ⟨a0, a1, ?_, hf⟩
  have : aggB Tryz.prog 25 = true := by kernel_rfl
  unfold argOf; rw [this]; rfl

theorem ar_heat {cs : List DV} (h : Shp Tryz.prog 10 95 cs) : ∃ (a0 : Int) (a1 : Int) (a2 : Int), argOf Tryz.prog 95 cs = .agg [I a0, I a1, I a2] ∧ I64 a0 ∧ I64 a1 ∧ I64 a2 := by
  obtain ⟨a0, a1, a2, rfl, hf⟩ := sh_heat (d := 8) h
  refine ⟨a0, a1, a2, ?_, hf⟩
  have : aggB Tryz.prog 95 = true := by kernel_rfl
  unfold argOf; rw [this]; rfl

theorem ar_fracs {cs : List DV} (h : Shp Tryz.prog 10 76 cs) : ∃ (a0 : List (Int × Int)), argOf Tryz.prog 76 cs = .slice a0.length (a0.map frC).flatten ∧ (a0.length ≤ 140737488355328 ∧ ∀ x ∈ a0, FrF x) := by
  obtain ⟨a0, rfl, hf⟩ := sh_fracs (d := 7) h
  refine ⟨a0, ?_, hf⟩
  have : aggB Tryz.prog 76 = false := by kernel_rfl
  unfold argOf; rw [this]; rfl

theorem ar_points {cs : List DV} (h : Shp Tryz.prog 10 47 cs) : ∃ (a0 : List (Int × Int)), argOf Tryz.prog 47 cs = .slice a0.length (a0.map frC).flatten ∧ (a0.length ≤ 140737488355328 ∧ ∀ x ∈ a0, FrF x) := by
  obtain ⟨a0, rfl, hf⟩ := sh_points (d := 7) h
  refine ⟨a0, ?_, hf⟩
  have : aggB Tryz.prog 47 = false := by kernel_rfl
  unfold argOf; rw [this]; rfl

theorem ar_wears {cs : List DV} (h : Shp Tryz.prog 10 48 cs) : ∃ (a0 : List Strp), argOf Tryz.prog 48 cs = .slice a0.length (a0.map strC).flatten ∧ (a0.length ≤ 140737488355328 ∧ ∀ x ∈ a0, StrF x) := by
  obtain ⟨a0, rfl, hf⟩ := sh_wears (d := 6) h
  refine ⟨a0, ?_, hf⟩
  have : aggB Tryz.prog 48 = false := by kernel_rfl
  unfold argOf; rw [this]; rfl

end Go.Proofs.YtagpmpbmfjaiiaaGreatDoor
