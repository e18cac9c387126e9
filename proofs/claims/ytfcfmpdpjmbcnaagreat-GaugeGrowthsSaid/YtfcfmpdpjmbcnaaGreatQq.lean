/- GaugeGrowths: which growths are accepted, with their factors, for every input. -/
import Derived.Test.YtfcfmpdpjmbcnaaGreatDt
import Derived.Test.YtfcfmpdpjmbcnaaGreatTd
import Derived.Test.YtfcfmpdpjmbcnaaGreatMp
set_option linter.unusedVariables false
set_option linter.unusedSimpArgs false
namespace Go.Proofs.YtfcfmpdpjmbcnaaGreat
open Go.RowKit Go.ChangeShapes Go.WideShapes Go.ChangeAt
set_option maxRecDepth 100000

theorem gaugeGrowths_lifted (os : Os) (started : os.Started) (H : Type) (enc : TypeId × Value → H) :
    ReturnsInHanded {} Tryz.checked os 3 .any (Rows.gaugeGrowthsSpec.pre6 enc Tryz.prog Tryz.f3 Rows.gaugeGrowthsRow.domain false) (Rows.gaugeGrowthsSpec.post enc Tryz.prog Tryz.f3 false true false false) := by
  refine returnsInHanded_of_change_sized (C := Tryz.checked) own started (by kernel_rfl) Tryz.func3
    (ChangeSpec.witness6 (enc := enc) (C := Tryz.checked) false ⟨#[], #[.agg #[.slice none 0 0, .int .i64 0], .agg #[.slice none 0 0, .slice none 0 0]], []⟩ 8 (by kernel_rfl) (by kernel_rfl) (by kernel_rfl) (by kernel_rfl)) ?_
  intro W base args ds gs before hval0 hW _ hsz _
  have hval : ∀ (j : Nat) t v, Tryz.f3.params[j]? = some t → args[j]? = some v → Value.okWide Tryz.prog W .any base t v := hval0
  have hW' := hW
  obtain ⟨p, q, hA0, hV, _, _, _⟩ := hW'
  have hA : DataW.TrodAll enc Tryz.prog W 0 (fun _ => true) true Tryz.f3.params.toList args.toList ds p := hA0
  obtain ⟨rfl, rfl⟩ := trodVars_none hV
  have hwt : ∀ n ∈ DataW.weightsEach Tryz.prog Tryz.f3.params.toList ds, n ≤ reachBytes := fun n hn => by
    have h1 := List.all_eq_true.1 hsz n (by rw [List.append_nil]; exact (List.append_nil _).symm ▸ hn)
    simpa using h1
  have hpar : Tryz.f3.params.toList = [24, 28] := by kernel_rfl
  have hrd : ∀ u ∈ Tryz.f3.params.toList, Tryz.prog.readableRec u = true ∧ u < Tryz.prog.types.size := by
    rw [hpar]
    intro u hu
    have h1 := List.all_eq_true.1 (show [24, 28].all (fun u => Tryz.prog.readableRec u && decide (u < Tryz.prog.types.size)) = true by kernel_rfl) u hu
    simpa using h1
  obtain ⟨dvs, hs, hr⟩ := args_rep (d := 10) (r := .any) (b0 := base) _ args.toList ds p (by rw [hpar]; exact List.all_eq_true.1 (by kernel_rfl)) (fun j t v hj hv => hval j t v (by simpa using hj) (by simpa using hv)) hA (fun n hn => hwt n hn)
  rw [hpar] at hs hA
  obtain ⟨v0, v1, d0, d1, p0, p1, hargs, rfl, _, _, _⟩ := trodAll_two hA
  obtain ⟨c0, l0, rfl, s0, c1, l1, rfl, s1, rfl⟩ := hs
  obtain ⟨x0_0, x0_1, e0, h0_0, h0_1⟩ := ar_loop s0
  obtain ⟨x1_0, x1_1, e1, h1_0, h1_1⟩ := ar_growth s1
  rw [e0, e1] at hr
  have h := gaugeGrowths_A awake_A x0_0 x0_1 x1_0 x1_1 h0_0.1 h1_0.1 h1_1.1 (fun r hr => (h1_1.2 r hr).1) (fun _ => True) W args.toList hr
  rw [Array.toArray_toList] at h
  refine h.mono fun e W' ⟨v, he, hrep, hb⟩ => ?_
  have hv := rep_val.1 hrep
  subst hv
  exact ⟨_, he, law_post hW rfl rfl rfl Tryz.underlying4 laid hrd hb⟩

theorem gaugeGrowths_holds : Rows.GaugeGrowthsSaid :=
  OpenClaim.holds_of_wide 3 Tryz.f3 rfl rfl rfl rfl rfl rfl rfl ⟨rfl, rfl, rfl, rfl, rfl⟩ rfl rfl rfl rfl rfl (by kernel_rfl) Tryz.func3 (by kernel_rfl)
    (of_decide_eq_true (by kernel_rfl)) (by unfold Func.isWrapper; first | (rw [if_pos (by decide +kernel)]; kernel_rfl) | (rw [if_neg (by decide +kernel)]; exact ⟨rfl, rfl⟩))
    (fun os started H enc _ => gaugeGrowths_lifted os started H enc)
#print axioms gaugeGrowths_holds

end Go.Proofs.YtfcfmpdpjmbcnaaGreat
