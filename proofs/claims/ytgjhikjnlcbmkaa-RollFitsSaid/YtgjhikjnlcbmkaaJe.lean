/- RollFits: for all records, rolls and amplitudes the law returns true, and its arguments read as they read before; no condition. -/
import Derived.Test.YtgjhikjnlcbmkaaSu
import Derived.Test.YtgjhikjnlcbmkaaMo
set_option linter.unusedVariables false
set_option linter.unusedSimpArgs false
namespace Go.Proofs.Ytgjhikjnlcbmkaa
open Go.RowKit Go.ChangeShapes Go.WideShapes Go.ChangeAt
set_option maxRecDepth 100000

theorem rollFits_lifted (os : Os) (started : os.Started) (H : Type) (enc : TypeId × Value → H) :
    ReturnsInHanded {} Try.checked os 3 .any (Rows.rollFitsSpec.pre6 enc Try.prog Try.f3 Rows.rollFitsRow.domain false) (Rows.rollFitsSpec.post enc Try.prog Try.f3 false true false false) := by
  refine returnsInHanded_of_change_sized (C := Try.checked) own started (by kernel_rfl) Try.func3
    (ChangeSpec.witness6 (enc := enc) (C := Try.checked) false ⟨#[], #[.slice none 0 0, .agg #[.string ⟨#[]⟩, .int .i64 0, .int .i64 0, .string ⟨#[]⟩, .int .i64 0, .int .i64 0], .agg #[.int .i64 0, .int .i64 0, .int .i64 0, .int .i64 0]], []⟩ 8 (by kernel_rfl) (by kernel_rfl) (by kernel_rfl) (by kernel_rfl)) ?_
  intro W base args ds gs before hval0 hW _ hsz _
  have hval : ∀ (j : Nat) t v, Try.f3.params[j]? = some t → args[j]? = some v → Value.okWide Try.prog W .any base t v := hval0
  have hW' := hW
  obtain ⟨p, q, hA0, hV, _, _, _⟩ := hW'
  have hA : DataW.TrodAll enc Try.prog W 0 (fun _ => true) true Try.f3.params.toList args.toList ds p := hA0
  obtain ⟨rfl, rfl⟩ := trodVars_none hV
  have hwt : ∀ n ∈ DataW.weightsEach Try.prog Try.f3.params.toList ds, n ≤ reachBytes := fun n hn => by
    have h1 := List.all_eq_true.1 hsz n (by rw [List.append_nil]; exact (List.append_nil _).symm ▸ hn)
    simpa using h1
  have hpar : Try.f3.params.toList = [22, 25, 29] := by kernel_rfl
  have hrd : ∀ u ∈ Try.f3.params.toList, Try.prog.readableRec u = true ∧ u < Try.prog.types.size := by
    rw [hpar]
    intro u hu
    have h1 := List.all_eq_true.1 (show [22, 25, 29].all (fun u => Try.prog.readableRec u && decide (u < Try.prog.types.size)) = true by kernel_rfl) u hu
    simpa using h1
  obtain ⟨dvs, hs, hr⟩ := args_rep (d := 10) (r := .any) (b0 := base) _ args.toList ds p (by rw [hpar]; exact List.all_eq_true.1 (by kernel_rfl)) (fun j t v hj hv => hval j t v (by simpa using hj) (by simpa using hv)) hA (fun n hn => hwt n hn)
  rw [hpar] at hs hA
  obtain ⟨v0, v1, v2, d0, d1, d2, p0, p1, p2, hargs, rfl, _, _, _, _⟩ := trodAll_three hA
  obtain ⟨c0, l0, rfl, s0, c1, l1, rfl, s1, c2, l2, rfl, s2, rfl⟩ := hs
  obtain ⟨x0_0, e0, h0_0⟩ := ar_ints s0
  obtain ⟨x1_0, x1_1, x1_2, x1_3, x1_4, x1_5, e1, h1_0, h1_1, h1_2, h1_3, h1_4, h1_5⟩ := ar_drums2 s1
  obtain ⟨x2_0, x2_1, x2_2, x2_3, e2, h2_0, h2_1, h2_2, h2_3⟩ := ar_two s2
  rw [e0, e1, e2] at hr
  have h := rollFits_A x0_0 x1_0 x1_1 x1_2 x1_3 x1_4 x1_5 x2_0 x2_1 x2_2 x2_3 h0_0.1 h1_0 h1_1 h1_3 h1_4 (fun _ => True) W args.toList hr
  rw [Array.toArray_toList] at h
  refine h.mono fun e W' ⟨v, he, hrep, hb⟩ => ?_
  have hv := rep_val.1 hrep
  subst hv
  exact ⟨_, he, law_post hW rfl rfl rfl Try.underlying4 laid hrd hb⟩

theorem rollFits_holds : Rows.RollFitsSaid :=
  OpenClaim.holds_of_wide 3 Try.f3 rfl rfl rfl rfl rfl rfl rfl ⟨rfl, rfl, rfl, rfl, rfl⟩ rfl rfl rfl rfl rfl (by kernel_rfl) Try.func3 (by kernel_rfl)
    (of_decide_eq_true (by kernel_rfl)) (by unfold Func.isWrapper; first | (rw [if_pos (by decide +kernel)]; kernel_rfl) | (rw [if_neg (by decide +kernel)]; exact ⟨rfl, rfl⟩))
    (fun os started H enc _ => rollFits_lifted os started H enc)
#print axioms rollFits_holds

end Go.Proofs.Ytgjhikjnlcbmkaa
