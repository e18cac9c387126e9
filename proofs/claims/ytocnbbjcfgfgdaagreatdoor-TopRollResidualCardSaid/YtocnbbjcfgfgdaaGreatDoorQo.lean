/- TopRollResidual: for every two rolls, amplitudes, thickness and number of turns the law returns true, and its argument reads as it read before; no condition but the listed variables, tied to the program's text. -/
import Derived.Test.YtocnbbjcfgfgdaaGreatDoorRx
import Derived.Test.YtocnbbjcfgfgdaaGreatDoorQy
import Derived.Test.YtocnbbjcfgfgdaaGreatDoorCards
import Derived.Test.YtocnbbjcfgfgdaaGreatDoorTie
import Derived.SevenTiedAt
set_option linter.unusedVariables false
set_option linter.unusedSimpArgs false
namespace Go.Proofs.YtocnbbjcfgfgdaaGreatDoor
open Go.RowKit Go.ChangeShapes Go.WideShapes Go.ChangeAt
set_option maxRecDepth 100000

theorem topRollResidual_lifted (os : Os) (started : os.Started) (H : Type) (enc : TypeId × Value → H) :
    ReturnsInHanded {} Tryz.checked os 4 .any (fun w args => (Rows.topRollResidualSpec.pre enc Tryz.prog Tryz.f4 [] false w args ∧ laidMetH Tryz.prog laidL w) ∧ sizedMet enc Tryz.prog Tryz.f4 (OpenSpec.ofChange Rows.topRollResidualSpec) false w args) (Rows.topRollResidualSpec.post enc Tryz.prog Tryz.f4 false true false false) := by
  refine returns_laid (C := Tryz.checked) (X := fun w _ => laidMetH Tryz.prog laidL w) (fun _ _ _ hh h => h.of_heap hh) own started (by kernel_rfl) Tryz.func4
    (ChangeSpec.witness_shaped (enc := enc) (C := Tryz.checked) (os := os) (X := fun w _ => laidMetH Tryz.prog laidL w) false (World.laidAll Tryz.prog os laidL) #[.agg #[.string ⟨#[]⟩, .int .i64 0, .int .i64 0, .string ⟨#[]⟩, .int .i64 0, .int .i64 0, .int .i64 0, .int .i64 0, .int .i64 0, .int .i64 0, .int .i64 0, .int .i64 0]] 8 (World.laidAll_os _ _ _)
      (World.shaped_of_ZipB (by kernel_rfl) (by kernel_rfl)) (by kernel_rfl) (by kernel_rfl) (by kernel_rfl)
      (by rw [MakeChecks.laidMetH_plain _ _ _ (by kernel_rfl)]; exact laidMet_laidAll _ (by kernel_rfl) (by kernel_rfl))) ?_
  intro W base args ds gs before hval0 hW _ hsz hL hsh _
  haveI : GlobI W := ⟨glob_of hsh hL⟩
  have hval : ∀ (j : Nat) t v, Tryz.f4.params[j]? = some t → args[j]? = some v → Value.okWide Tryz.prog W .any base t v := hval0
  have hW' := hW
  obtain ⟨p, q, hA0, hV, _, _, _⟩ := hW'
  have hA : DataW.TrodAll enc Tryz.prog W 0 (fun _ => true) true Tryz.f4.params.toList args.toList ds p := hA0
  obtain ⟨rfl, rfl⟩ := trodVars_none hV
  have hwt : ∀ n ∈ DataW.weightsEach Tryz.prog Tryz.f4.params.toList ds, n ≤ reachBytes := fun n hn => by
    have h1 := List.all_eq_true.1 hsz n (by rw [List.append_nil]; exact (List.append_nil _).symm ▸ hn)
    simpa using h1
  have hpar : Tryz.f4.params.toList = [38] := by kernel_rfl
  have hrd : ∀ u ∈ Tryz.f4.params.toList, Tryz.prog.readableRec u = true ∧ u < Tryz.prog.types.size := by
    rw [hpar]
    intro u hu
    have h1 := List.all_eq_true.1 (show [38].all (fun u => Tryz.prog.readableRec u && decide (u < Tryz.prog.types.size)) = true by kernel_rfl) u hu
    simpa using h1
  obtain ⟨dvs, hs, hr⟩ := args_rep (d := 10) (r := .any) (b0 := base) _ args.toList ds p (by rw [hpar]; exact List.all_eq_true.1 (by kernel_rfl)) (fun j t v hj hv => hval j t v (by simpa using hj) (by simpa using hv)) hA (fun n hn => hwt n hn)
  rw [hpar] at hs hA
  obtain ⟨v0, d0, hargs, rfl, _⟩ := trodAll_one hA
  obtain ⟨c0, l0, rfl, s0, rfl⟩ := hs
  obtain ⟨x0_0, x0_1, x0_2, x0_3, x0_4, x0_5, x0_6, x0_7, x0_8, x0_9, x0_10, x0_11, e0, h0_0, h0_1, h0_2, h0_3, h0_4, h0_5, h0_6, h0_7, h0_8, h0_9, h0_10, h0_11⟩ := ar_mill s0
  rw [e0] at hr
  have h := residual_A x0_0 x0_3 x0_1 x0_2 x0_4 x0_5 x0_6 x0_7 x0_8 x0_9 x0_10 x0_11 h0_0 h0_1 h0_2 h0_3 h0_4 h0_5 (fun _ => True) W args.toList hr
  rw [Array.toArray_toList] at h
  refine h.mono fun e W' ⟨v, he, hrep, hb⟩ => ?_
  have hv := rep_val.1 hrep
  subst hv
  exact ⟨_, he, law_post hW rfl rfl rfl Tryz.underlying4 laid hrd hb⟩

theorem topRollResidual_holds : Rows.TopRollResidualSaid :=
  OpenClaim.holds_of_wide 4 Tryz.f4 rfl rfl rfl rfl rfl rfl rfl ⟨rfl, rfl, rfl, rfl, rfl⟩ rfl rfl rfl rfl rfl (by kernel_rfl) Tryz.func4 (by kernel_rfl)
    (of_decide_eq_true (by kernel_rfl)) (by unfold Func.isWrapper; first | (rw [if_pos (by decide +kernel)]; kernel_rfl) | (rw [if_neg (by decide +kernel)]; exact ⟨rfl, rfl⟩))
    (fun os started H enc _ => topRollResidual_lifted os started H enc)
theorem topRollResidual_card : Rows.TopRollResidualCardSaid :=
  Claim7.holds_tied_plain_at .later [] [.data, .data, .data, .data, .sentinel, .sentinel, .pinned] true (true, "c7b7c1a9058e46dadc88a5603e11477e89199220298e7c069625e19a63430a4c") true topRollResidual_holds (fun _ h => by cases h) (by kernel_rfl) (fun _ h => by cases h) topRollResidual_row_tie rfl ⟨rfl, rfl⟩ (by kernel_rfl) rfl
    (fun f fn hf hfn => by
      obtain rfl : f = 4 := Option.some.inj ((show Tryz.prog.funcNamed "cobble/cobbletop.TopRollResidual" = some 4 by kernel_rfl).symm.trans hf) |>.symm
      obtain rfl : fn = Tryz.f4 := (Option.some.inj (Tryz.func4.symm.trans hfn)).symm
      exact ⟨by kernel_rfl, fun j t ht => by
        have hpar : Tryz.f4.params.toList = [38] := by kernel_rfl
        have hm : t ∈ [38] := by
          rw [← hpar]
          exact Array.mem_toList_iff.2 (Array.mem_of_getElem? ht)
        have hall : ([38].all fun u => !Tryz.prog.wantsStandIn u) = true := by kernel_rfl
        exact (show Tryz.prog.wantsStandIn t = false by simpa using List.all_eq_true.1 hall t hm)⟩)
    (by kernel_rfl)
#print axioms topRollResidual_card

end Go.Proofs.YtocnbbjcfgfgdaaGreatDoor
