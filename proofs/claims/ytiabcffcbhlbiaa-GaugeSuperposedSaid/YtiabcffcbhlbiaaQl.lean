/- GaugeSuperposed: the runs of a sum are the sums of the runs, for every input. -/
import Derived.Test.YtiabcffcbhlbiaaXm
import Derived.Test.YtiabcffcbhlbiaaTd
import Derived.Test.YtiabcffcbhlbiaaMo
set_option linter.unusedVariables false
set_option linter.unusedSimpArgs false
namespace Go.Proofs.Ytiabcffcbhlbiaa
open Go.RowKit Go.ChangeShapes Go.WideShapes Go.ChangeAt
set_option maxRecDepth 100000

theorem shp_len {P : Program} {e t : TypeId} {d n : Nat} {cs : List DV} (hu : P.underlying t = some (.slice e)) (h : Shp P (d + 1) t [.slice n cs]) : n * P.bytesOf e ≤ reachBytes := by
  obtain ⟨css, e1, h1, _⟩ := shp_slice hu h
  injection e1 with e1 _
  injection e1 with e2 _
  rw [e2]; exact h1
theorem sh_intsB {d : Nat} {cs : List DV} (h : Shp Try.prog (d + 2) 25 cs) : ∃ a0 : List Int, cs = [isl a0] ∧ a0.length ≤ 17592186044416 := by
  obtain ⟨a0, rfl, _⟩ := sh_ints h
  have h1 := shp_len Try.underlying25 h
  rw [show Try.prog.bytesOf 3 = 8 by kernel_rfl] at h1
  unfold reachBytes at h1
  exact ⟨a0, rfl, by omega⟩
theorem sh_listsB {d : Nat} {cs : List DV} (h : Shp Try.prog (d + 3) 33 cs) : ∃ a0 : List (List Int), cs = [.slice a0.length (a0.map llC).flatten] ∧ a0.length ≤ 5864062014700 ∧ ∀ r ∈ a0, r.length ≤ 17592186044416 := by
  obtain ⟨a0, rfl, _, h3⟩ := shp_list llC (fun l => l.length ≤ 17592186044416) (by kernel_rfl) Try.underlying33 (fun c hc => by
    obtain ⟨a0, rfl, ha0⟩ := sh_intsB (d := d) hc
    exact ⟨a0, rfl, ha0⟩) h
  have h1 := shp_len Try.underlying33 h
  rw [show Try.prog.bytesOf 25 = 24 by kernel_rfl] at h1
  unfold reachBytes at h1
  exact ⟨a0, rfl, by omega, h3⟩
theorem ar_runB {cs : List DV} (h : Shp Try.prog 10 35 cs) : ∃ (a0 : List Int) (a1 : List (List Int)) (a2 : List Int), argOf Try.prog 35 cs = .agg [isl a0, .slice a1.length (a1.map llC).flatten, isl a2] ∧ a0.length ≤ 17592186044416 ∧ (a1.length ≤ 5864062014700 ∧ ∀ r ∈ a1, r.length ≤ 17592186044416) ∧ a2.length ≤ 17592186044416 := by
  obtain ⟨css, rfl, c0, l0, rfl, s0, c1, l1, rfl, s1, c2, l2, rfl, s2, rfl⟩ := shp_struct Try.underlying35 h
  obtain ⟨a0, rfl, ha0⟩ := sh_intsB (d := 7) s0
  obtain ⟨a1, rfl, ha1⟩ := sh_listsB (d := 6) s1
  obtain ⟨a2, rfl, ha2⟩ := sh_intsB (d := 7) s2
  refine ⟨a0, a1, a2, ?_, ha0, ha1, ha2⟩
  have : aggB Try.prog 35 = true := by kernel_rfl
  unfold argOf; rw [this]; rfl

theorem gaugeSuperposed_lifted (os : Os) (started : os.Started) (H : Type) (enc : TypeId × Value → H) :
    ReturnsInHanded {} Try.checked os 5 .any (Rows.gaugeSuperposedSpec.pre6 enc Try.prog Try.f5 Rows.gaugeSuperposedRow.domain false) (Rows.gaugeSuperposedSpec.post enc Try.prog Try.f5 false true false false) := by
  refine returnsInHanded_of_change_sized (C := Try.checked) own started (by kernel_rfl) Try.func5
    (ChangeSpec.witness6 (enc := enc) (C := Try.checked) false ⟨#[], #[.agg #[.slice none 0 0, .int .i64 0], .agg #[.slice none 0 0, .slice none 0 0, .slice none 0 0], .agg #[.slice none 0 0, .slice none 0 0, .slice none 0 0]], []⟩ 8 (by kernel_rfl) (by kernel_rfl) (by kernel_rfl) (by kernel_rfl)) ?_
  intro W base args ds gs before hval0 hW _ hsz _
  have hval : ∀ (j : Nat) t v, Try.f5.params[j]? = some t → args[j]? = some v → Value.okWide Try.prog W .any base t v := hval0
  have hW' := hW
  obtain ⟨p, q, hA0, hV, _, _, _⟩ := hW'
  have hA : DataW.TrodAll enc Try.prog W 0 (fun _ => true) true Try.f5.params.toList args.toList ds p := hA0
  obtain ⟨rfl, rfl⟩ := trodVars_none hV
  have hwt : ∀ n ∈ DataW.weightsEach Try.prog Try.f5.params.toList ds, n ≤ reachBytes := fun n hn => by
    have h1 := List.all_eq_true.1 hsz n (by rw [List.append_nil]; exact (List.append_nil _).symm ▸ hn)
    simpa using h1
  have hpar : Try.f5.params.toList = [24, 35, 35] := by kernel_rfl
  have hrd : ∀ u ∈ Try.f5.params.toList, Try.prog.readableRec u = true ∧ u < Try.prog.types.size := by
    rw [hpar]
    intro u hu
    have h1 := List.all_eq_true.1 (show [24, 35, 35].all (fun u => Try.prog.readableRec u && decide (u < Try.prog.types.size)) = true by kernel_rfl) u hu
    simpa using h1
  obtain ⟨dvs, hs, hr⟩ := args_rep (d := 10) (r := .any) (b0 := base) _ args.toList ds p (by rw [hpar]; exact List.all_eq_true.1 (by kernel_rfl)) (fun j t v hj hv => hval j t v (by simpa using hj) (by simpa using hv)) hA (fun n hn => hwt n hn)
  rw [hpar] at hs hA
  obtain ⟨v0, v1, v2, d0, d1, d2, p0, p1, p2, hargs, rfl, _, _, _, _⟩ := trodAll_three hA
  obtain ⟨c0, l0, rfl, s0, c1, l1, rfl, s1, c2, l2, rfl, s2, rfl⟩ := hs
  obtain ⟨x0_0, x0_1, e0, h0_0, h0_1⟩ := ar_loop s0
  obtain ⟨x1_0, x1_1, x1_2, e1, h1_0, h1_1, h1_2⟩ := ar_runB s1
  obtain ⟨x2_0, x2_1, x2_2, e2, h2_0, h2_1, h2_2⟩ := ar_runB s2
  rw [e0, e1, e2] at hr
  have h := gaugeSuperposed_A awake_A x0_0 x0_1 x1_0 x1_1 x1_2 x2_0 x2_1 x2_2 h0_0.1 h1_0 h1_1.1 h1_1.2 h1_2 h2_0 h2_1.1 h2_1.2 h2_2 (fun _ => True) W args.toList hr
  rw [Array.toArray_toList] at h
  refine h.mono fun e W' ⟨v, he, hrep, hb⟩ => ?_
  have hv := rep_val.1 hrep
  subst hv
  exact ⟨_, he, law_post hW rfl rfl rfl Try.underlying4 laid hrd hb⟩

theorem gaugeSuperposed_holds : Rows.GaugeSuperposedSaid :=
  OpenClaim.holds_of_wide 5 Try.f5 rfl rfl rfl rfl rfl rfl rfl ⟨rfl, rfl, rfl, rfl, rfl⟩ rfl rfl rfl rfl rfl (by kernel_rfl) Try.func5 (by kernel_rfl)
    (of_decide_eq_true (by kernel_rfl)) (by unfold Func.isWrapper; first | (rw [if_pos (by decide +kernel)]; kernel_rfl) | (rw [if_neg (by decide +kernel)]; exact ⟨rfl, rfl⟩))
    (fun os started H enc _ => gaugeSuperposed_lifted os started H enc)
#print axioms gaugeSuperposed_holds

end Go.Proofs.Ytiabcffcbhlbiaa
