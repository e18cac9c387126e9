/- RollCancels: for every record, roll and amplitude the law returns true, and its arguments read as they read before; no condition. -/
import Derived.Test.YtemihhkbieplmaaRows
import Derived.Test.YtemihhkbieplmaaBw
import Derived.Test.YtemihhkbieplmaaL3
set_option linter.unusedVariables false
set_option linter.unusedSimpArgs false
namespace Go.Proofs.Ytemihhkbieplmaa
open Go.RowKit Go.ChangeShapes Go.WideShapes Go.ChangeAt
set_option maxRecDepth 100000

theorem drum_arg {cs : List DV} (h : Shp Try.prog 10 43 cs) : ∃ nm p o, argOf Try.prog 43 cs = drumV nm p o ∧ nm.size ≤ 140737488355328 ∧ I64 p ∧ I64 o := by
  obtain ⟨css, rfl, c0, l0, rfl, s0, c1, l1, rfl, s1, c2, l2, rfl, s2, rfl⟩ := shp_struct Try.underlying43 h
  obtain ⟨nm, rfl, hn⟩ := shp_string Try.underlying9 s0
  obtain ⟨p, rfl, hp⟩ := shp_int Try.underlying3 s1
  obtain ⟨o, rfl, ho⟩ := shp_int Try.underlying3 s2
  refine ⟨nm, p, o, ?_, hn, hp, ho⟩
  have : aggB Try.prog 43 = true := by kernel_rfl
  unfold argOf; rw [this]; rfl
theorem gauss_arg {cs : List DV} (h : Shp Try.prog 10 45 cs) : ∃ re im, argOf Try.prog 45 cs = gV re im ∧ I64 re ∧ I64 im := by
  obtain ⟨css, rfl, c0, l0, rfl, s0, c1, l1, rfl, s1, rfl⟩ := shp_struct Try.underlying45 h
  obtain ⟨re, rfl, hp⟩ := shp_int Try.underlying3 s0
  obtain ⟨im, rfl, ho⟩ := shp_int Try.underlying3 s1
  refine ⟨re, im, ?_, hp, ho⟩
  have : aggB Try.prog 45 = true := by kernel_rfl
  unfold argOf; rw [this]; rfl
theorem ints_arg {cs : List DV} (h : Shp Try.prog 10 24 cs) : ∃ xs : List Int, argOf Try.prog 24 cs = isl xs ∧ xs.length ≤ 140737488355328 ∧ ∀ x ∈ xs, I64 x := by
  obtain ⟨xs, rfl, h1, h2⟩ := shp_ints (d := 8) (by kernel_rfl) Try.underlying24 Try.underlying3 h
  refine ⟨xs, ?_, h1, h2⟩
  have : aggB Try.prog 24 = false := by kernel_rfl
  unfold argOf; rw [this]; rfl

theorem rollCancels_lifted (os : Os) (started : os.Started) (H : Type) (enc : TypeId × Value → H) :
    ReturnsInHanded {} Try.checked os 4 .any (Rows.rollCancelsSpec.pre6 enc Try.prog Try.f4 Rows.rollCancelsRow.domain false) (Rows.rollCancelsSpec.post enc Try.prog Try.f4 false true false false) := by
  refine returnsInHanded_of_change_sized (C := Try.checked) own started (by kernel_rfl) Try.func4
    (ChangeSpec.witness6 (enc := enc) (C := Try.checked) false ⟨#[], #[.slice none 0 0, .agg #[.string ⟨#[]⟩, .int .i64 0, .int .i64 0], .agg #[.int .i64 0, .int .i64 0]], []⟩ 8 (by kernel_rfl) (by kernel_rfl) (by kernel_rfl) (by kernel_rfl)) ?_
  intro W base args ds gs before hval0 hW _ hsz _
  have hval : ∀ (j : Nat) t v, Try.f4.params[j]? = some t → args[j]? = some v → Value.okWide Try.prog W .any base t v := hval0
  have hW' := hW
  obtain ⟨p, q, hA0, hV, _, _, _⟩ := hW'
  have hA : DataW.TrodAll enc Try.prog W 0 (fun _ => true) true Try.f4.params.toList args.toList ds p := hA0
  obtain ⟨rfl, rfl⟩ := trodVars_none hV
  have hwt : ∀ n ∈ DataW.weightsEach Try.prog Try.f4.params.toList ds, n ≤ reachBytes := fun n hn => by
    have h1 := List.all_eq_true.1 hsz n (by rw [List.append_nil]; exact (List.append_nil _).symm ▸ hn)
    simpa using h1
  have hpar : Try.f4.params.toList = [24, 43, 45] := by kernel_rfl
  have hrd : ∀ u ∈ Try.f4.params.toList, Try.prog.readableRec u = true ∧ u < Try.prog.types.size := by
    rw [hpar]
    intro u hu
    have h1 := List.all_eq_true.1 (show [24, 43, 45].all (fun u => Try.prog.readableRec u && decide (u < Try.prog.types.size)) = true by kernel_rfl) u hu
    simpa using h1
  obtain ⟨dvs, hs, hr⟩ := args_rep (d := 10) (r := .any) (b0 := base) _ args.toList ds p (by rw [hpar]; exact List.all_eq_true.1 (by kernel_rfl)) (fun j t v hj hv => hval j t v (by simpa using hj) (by simpa using hv)) hA (fun n hn => hwt n hn)
  rw [hpar] at hs hA
  obtain ⟨v0, v1, v2, d0, d1, d2, p0, p1, p2, hargs, rfl, _, _, _, _⟩ := trodAll_three hA
  obtain ⟨c0, l0, rfl, s0, c1, l1, rfl, s1, c2, l2, rfl, s2, rfl⟩ := hs
  obtain ⟨xs, e0, hm, _⟩ := ints_arg s0
  obtain ⟨nm, p, o, e1, hn, hp, _⟩ := drum_arg s1
  obtain ⟨re, im, e2, _, _⟩ := gauss_arg s2
  rw [e0, e1, e2] at hr
  have h := rollCancels_A xs nm p o re im hm hn hp (fun _ => True) W args.toList hr
  rw [Array.toArray_toList] at h
  refine h.mono fun e W' ⟨v, he, hrep, hb⟩ => ?_
  have hv := rep_val.1 hrep
  subst hv
  exact ⟨_, he, law_post hW rfl rfl rfl Try.underlying4 laid hrd hb⟩

theorem rollCancels_holds : Rows.RollCancelsSaid :=
  OpenClaim.holds_of_wide 4 Try.f4 rfl rfl rfl rfl rfl rfl rfl ⟨rfl, rfl, rfl, rfl, rfl⟩ rfl rfl rfl rfl rfl (by kernel_rfl) Try.func4 (by kernel_rfl)
    (of_decide_eq_true (by kernel_rfl)) (by unfold Func.isWrapper; first | (rw [if_pos (by decide +kernel)]; kernel_rfl) | (rw [if_neg (by decide +kernel)]; exact ⟨rfl, rfl⟩))
    (fun os started H enc _ => rollCancels_lifted os started H enc)
#print axioms rollCancels_holds

end Go.Proofs.Ytemihhkbieplmaa
