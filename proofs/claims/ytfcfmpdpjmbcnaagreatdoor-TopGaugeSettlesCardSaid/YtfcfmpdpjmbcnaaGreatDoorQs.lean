/- TopGaugeSettles: for every loop, proof and growth the law returns true, and its arguments read as they read before; no condition but the listed variables, tied to the program's text. -/
import Derived.Test.YtfcfmpdpjmbcnaaGreatDoorFy
import Derived.Test.YtfcfmpdpjmbcnaaGreatDoorQz
import Derived.Test.YtfcfmpdpjmbcnaaGreatDoorMp
import Derived.Test.YtfcfmpdpjmbcnaaGreatDoorTd
import Derived.Test.YtfcfmpdpjmbcnaaGreatDoorCards
import Derived.Test.YtfcfmpdpjmbcnaaGreatDoorTie
import Derived.SevenTiedAt
set_option linter.unusedVariables false
set_option linter.unusedSimpArgs false
namespace Go.Proofs.YtfcfmpdpjmbcnaaGreatDoor
open Go.RowKit Go.ChangeShapes Go.WideShapes Go.ChangeAt
set_option maxRecDepth 100000

theorem topGaugeSettles_lifted (os : Os) (started : os.Started) (H : Type) (enc : TypeId × Value → H) :
    ReturnsInHanded {} Tryz.checked os 4 .any (fun w args => (Rows.topGaugeSettlesSpec.pre enc Tryz.prog Tryz.f4 [] false w args ∧ laidMetH Tryz.prog laidL w) ∧ sizedMet enc Tryz.prog Tryz.f4 (OpenSpec.ofChange Rows.topGaugeSettlesSpec) false w args) (Rows.topGaugeSettlesSpec.post enc Tryz.prog Tryz.f4 false true false false) := by
  refine returns_laid (C := Tryz.checked) (X := fun w _ => laidMetH Tryz.prog laidL w) (fun _ _ _ hh h => h.of_heap hh) own started (by kernel_rfl) Tryz.func4
    (ChangeSpec.witness_shaped (enc := enc) (C := Tryz.checked) (os := os) (X := fun w _ => laidMetH Tryz.prog laidL w) false (World.laidAll Tryz.prog os laidL) #[.agg #[.slice none 0 0, .int .i64 0], .agg #[.int .i64 0, .slice none 0 0], .agg #[.slice none 0 0, .slice none 0 0]] 8 (World.laidAll_os _ _ _)
      (World.shaped_of_ZipB (by kernel_rfl) (by kernel_rfl)) (by kernel_rfl) (by kernel_rfl) (by kernel_rfl)
      (by rw [MakeChecks.laidMetH_plain _ _ _ (by kernel_rfl)]; exact laidMet_laidAll _ (by kernel_rfl) (by kernel_rfl))) ?_
  intro W base args ds gs before hval0 hW _ hsz hL hsh _
  haveI : GlobI W := ⟨glob_of hsh hL⟩
  have hval : ∀ (j : Nat) t v, Tryz.f4.params[j]? = some t → args[j]? = some v → Value.okWide Tryz.prog W .any base t v := hval0
  have hW' := hW
  obtain ⟨p, q, hA0, hV, _, _, _⟩ := hW'
  have hA : DataW.TrodAll enc Tryz.prog W 0 (fun _ => true) true Tryz.f4.params.toList args.toList ds p := hA0
  obtain ⟨rfl, rfl⟩ := trodVars_none hV
  have hwt : ∀ n ∈ DataW.weightsEach Tryz.prog Tryz.f4.params.toList ds, n ≤ reachBytes := fun n hn => by
    have h1 := List.all_eq_true.1 hsz n (by rw [List.append_nil]; exact (List.append_nil _).symm ▸ hn)
    simpa using h1
  have hpar : Tryz.f4.params.toList = [24, 39, 42] := by kernel_rfl
  have hrd : ∀ u ∈ Tryz.f4.params.toList, Tryz.prog.readableRec u = true ∧ u < Tryz.prog.types.size := by
    rw [hpar]
    intro u hu
    have h1 := List.all_eq_true.1 (show [24, 39, 42].all (fun u => Tryz.prog.readableRec u && decide (u < Tryz.prog.types.size)) = true by kernel_rfl) u hu
    simpa using h1
  obtain ⟨dvs, hs, hr⟩ := args_rep (d := 10) (r := .any) (b0 := base) _ args.toList ds p (by rw [hpar]; exact List.all_eq_true.1 (by kernel_rfl)) (fun j t v hj hv => hval j t v (by simpa using hj) (by simpa using hv)) hA (fun n hn => hwt n hn)
  rw [hpar] at hs hA
  obtain ⟨v0, v1, v2, d0, d1, d2, p0, p1, p2, hargs, rfl, _, _, _, _⟩ := trodAll_three hA
  obtain ⟨c0, l0, rfl, s0, c1, l1, rfl, s1, c2, l2, rfl, s2, rfl⟩ := hs
  obtain ⟨x0_0, x0_1, e0, h0_0, h0_1⟩ := ar_loop s0
  obtain ⟨x1_0, x1_1, e1, h1_0, h1_1⟩ := ar_proof s1
  obtain ⟨x2_0, x2_1, e2, h2_0, h2_1⟩ := ar_growth s2
  rw [e0, e1, e2] at hr
  have h := topGaugeSettles_A gaugeShown_A x0_0 x0_1 x1_0 x1_1 x2_0 x2_1 h0_0.1 h1_1.1 h2_0.1 h2_1.1 (fun r hr => (h2_1.2 r hr).1) (fun _ => True) W args.toList hr
  rw [Array.toArray_toList] at h
  refine h.mono fun e W' ⟨v, he, hrep, hb⟩ => ?_
  have hv := rep_val.1 hrep
  subst hv
  exact ⟨_, he, law_post hW rfl rfl rfl Tryz.underlying4 laid hrd hb⟩

theorem topGaugeSettles_holds : Rows.TopGaugeSettlesSaid :=
  OpenClaim.holds_of_wide 4 Tryz.f4 rfl rfl rfl rfl rfl rfl rfl ⟨rfl, rfl, rfl, rfl, rfl⟩ rfl rfl rfl rfl rfl (by kernel_rfl) Tryz.func4 (by kernel_rfl)
    (of_decide_eq_true (by kernel_rfl)) (by unfold Func.isWrapper; first | (rw [if_pos (by decide +kernel)]; kernel_rfl) | (rw [if_neg (by decide +kernel)]; exact ⟨rfl, rfl⟩))
    (fun os started H enc _ => topGaugeSettles_lifted os started H enc)
theorem topGaugeSettles_card : Rows.TopGaugeSettlesCardSaid :=
  Claim7.holds_tied_plain_at .later [] [.data, .data, .data, .data, .sentinel, .sentinel, .pinned] true (true, "5845a2c61f23559e0e005585c65a4006304af70e80e148159efd501db14f25aa") true topGaugeSettles_holds (fun _ h => by cases h) (by kernel_rfl) (fun _ h => by cases h) topGaugeSettles_row_tie rfl ⟨rfl, rfl⟩ (by kernel_rfl) rfl
    (fun f fn hf hfn => by
      obtain rfl : f = 4 := Option.some.inj ((show Tryz.prog.funcNamed "cobble/cobbletop.TopGaugeSettles" = some 4 by kernel_rfl).symm.trans hf) |>.symm
      obtain rfl : fn = Tryz.f4 := (Option.some.inj (Tryz.func4.symm.trans hfn)).symm
      exact ⟨by kernel_rfl, fun j t ht => by
        have hpar : Tryz.f4.params.toList = [24, 39, 42] := by kernel_rfl
        have hm : t ∈ [24, 39, 42] := by
          rw [← hpar]
          exact Array.mem_toList_iff.2 (Array.mem_of_getElem? ht)
        have hall : ([24, 39, 42].all fun u => !Tryz.prog.wantsStandIn u) = true := by kernel_rfl
        exact (show Tryz.prog.wantsStandIn t = false by simpa using List.all_eq_true.1 hall t hm)⟩)
    (by kernel_rfl)
#print axioms topGaugeSettles_card

end Go.Proofs.YtfcfmpdpjmbcnaaGreatDoor
