/- The law FlatTolerances: the walk. -/
import Derived.Test.YtgklcfjfegceeaaTy
import Derived.Test.YtgklcfjfegceeaaPx
import Derived.Test.YtgklcfjfegceeaaPs
set_option linter.unusedVariables false
set_option linter.unusedSimpArgs false
namespace Go.Proofs.Ytgklcfjfegceeaa
open Go.RowKit
set_option maxRecDepth 20000
set_option maxHeartbeats 8000000

theorem pickTo_len {f : Nat → Bool} : ∀ k b, pickTo f k = some b → b.length ≤ 9
  | 0, b, h => by
    have h : none = some b := h
    cases h
  | k + 1, b, h => by
    have h : pickS f (pickTo f k) (k + 1) = some b := h
    have ih := pickTo_len (f := f) k
    unfold pickS at h
    generalize pickTo f k = y at *
    cases hf : f (k + 1)
    · rw [hf] at h
      rcases y with _ | c
      · have h : some (posTo (k + 1) 9) = some b := h
        cases h; exact posTo_len _ _
      · have h : (bif better (posTo (k + 1) 9) c then some (posTo (k + 1) 9) else some c) = some b := h
        cases hb : better (posTo (k + 1) 9) c
        · rw [hb] at h
          exact ih b h
        · rw [hb] at h
          have h : some (posTo (k + 1) 9) = some b := h
          cases h; exact posTo_len _ _
    · rw [hf] at h; exact ih b h
theorem flatTolerances_A (T : List Int) (A : List Act3) (m : Int) : AC Try.prog 11 [rulV T A, I m] (B true) := by
  have aw := awake_A
  have hf := few_A T A
  cases hq : fewP T A
  · rw [hq] at hf
    refine ac_body Try.func11 rfl (by kernel_rfl) fun w0 ok => ?_; show AWp _ (ctx0 w0 ok _) _ (ARet _ _ _) (entry _)
    (repeat' (first | (with_reducible first | intro hg | refine awp_seq ?_ | refine q_seq ?_ | refine q_blk ?_ | refine awp_block ?_ | refine awp_skip ?_ | refine awp_ret ?_ | refine awp_exit ?_ | refine q_seqE ?_ | refine q_seqR ?_ | refine q_blkR ?_ | refine q_blkE ?_) | ((with_reducible refine awp_region ?_ ?_); (focus exact kr)) | ((with_reducible refine awp_region_any mixed ?_ ?_); (focus exact kr)) | ((with_reducible apply awp_condT); (focus exact rfl); (focus exact tt)) | ((with_reducible apply awp_condF); (focus exact rfl); (focus exact ff)) | ((with_reducible apply awp_condD); (focus exact rfl)) | ((with_reducible apply awp_condN); (focus exact rfl)) | ((with_reducible apply awp_cond); (focus exact rfl)) | ((with_reducible refine q_blkX ?_ ?_); (focus exact rfl)) | ((with_reducible refine r_nil (And.intro ?_ ?_)); (focus exact kr)) | (with_reducible refine r_nil ?_) | ((with_reducible apply r_put); (focus (first | exact dp | exact oc rfl (aw) | exact oc rfl (hf)))) | ((with_reducible apply r_new); (focus exact dn)) | ((with_reducible apply r_app); (focus exact da)) | ((with_reducible apply r_set); (focus exact ds)) | ((with_reducible apply r_putY); (focus exact rfl); (focus exact rfl); (focus exact tf); (focus (first | exact dp | exact oc rfl (aw) | exact oc rfl (hf)))) | ((with_reducible apply r_newY); (focus exact rfl); (focus exact rfl); (focus exact tf); (focus exact dn)) | ((with_reducible apply r_noT); (focus exact rfl); (focus exact rfl); (focus exact ff)) | ((with_reducible apply r_noF); (focus exact rfl); (focus exact rfl); (focus exact tt)) | ((with_reducible apply r_noU); (focus exact rfl); (focus exact rfl)) | ((with_reducible apply r_splitD); (focus exact rfl); (focus exact rfl)) | ((with_reducible apply r_split); (focus exact rfl); (focus exact rfl))))
    ((with_reducible first | apply q_retR | apply q_retN); (focus exact rl))
    rfl
  rw [hq] at hf
  have hfo := fewP_ok hq
  have hlo := hfo.len
  have hcr := hfo.copy
  have hre := rulesErr_A T A hlo
  by_cases he : (rulE T A).2 = 0
  rotate_left
  · have ht : tolE T A m = (rulE T A).2 := fst0_ne he _
    have g1 := firstWithin_err T A m hlo (by rw [ht]; exact he)
    have g2 := countWithin_err T A m hlo (by rw [ht]; exact he)
    have g3 := contra_err T A m hlo (by rw [ht]; exact he)
    rw [ht] at g1 g2 g3
    refine ac_body Try.func11 rfl (by kernel_rfl) fun w0 ok => ?_; show AWp _ (ctx0 w0 ok _) _ (ARet _ _ _) (entry _)
    (repeat' (first | (with_reducible first | intro hg | refine awp_seq ?_ | refine q_seq ?_ | refine q_blk ?_ | refine awp_block ?_ | refine awp_skip ?_ | refine awp_ret ?_ | refine awp_exit ?_ | refine q_seqE ?_ | refine q_seqR ?_ | refine q_blkR ?_ | refine q_blkE ?_) | ((with_reducible refine awp_region ?_ ?_); (focus exact kr)) | ((with_reducible refine awp_region_any mixed ?_ ?_); (focus exact kr)) | ((with_reducible apply awp_condT); (focus exact rfl); (focus exact tt)) | ((with_reducible apply awp_condF); (focus exact rfl); (focus exact ff)) | ((with_reducible apply awp_condD); (focus exact rfl)) | ((with_reducible apply awp_condN); (focus exact rfl)) | ((with_reducible apply awp_cond); (focus exact rfl)) | ((with_reducible refine q_blkX ?_ ?_); (focus exact rfl)) | ((with_reducible refine r_nil (And.intro ?_ ?_)); (focus exact kr)) | (with_reducible refine r_nil ?_) | ((with_reducible apply r_put); (focus (first | exact dp | exact oc rfl (aw) | exact oc rfl (hf) | exact oc rfl (hcr) | exact oc rfl (hre) | exact oc rfl (g1) | exact oc rfl (g2) | exact oc rfl (g3)))) | ((with_reducible apply r_new); (focus exact dn)) | ((with_reducible apply r_app); (focus exact da)) | ((with_reducible apply r_set); (focus exact ds)) | ((with_reducible apply r_putY); (focus exact rfl); (focus exact rfl); (focus exact tf); (focus (first | exact dp | exact oc rfl (aw) | exact oc rfl (hf) | exact oc rfl (hcr) | exact oc rfl (hre) | exact oc rfl (g1) | exact oc rfl (g2) | exact oc rfl (g3)))) | ((with_reducible apply r_newY); (focus exact rfl); (focus exact rfl); (focus exact tf); (focus exact dn)) | ((with_reducible apply r_noT); (focus exact rfl); (focus exact rfl); (focus exact ff)) | ((with_reducible apply r_noF); (focus exact rfl); (focus exact rfl); (focus exact tt)) | ((with_reducible apply r_noU); (focus exact rfl); (focus exact rfl)) | ((with_reducible apply r_splitD); (focus exact rfl); (focus exact rfl)) | ((with_reducible apply r_split); (focus exact rfl); (focus exact rfl))))
    all_goals first | exact absurd rfl hg | (((with_reducible first | apply q_retR | apply q_retN); (focus exact rl)); first | rfl | exact rt_bool (decide_eq_true rfl).symm)
  obtain ⟨h00, hok⟩ := rulE_ok he
  rw [he] at hre
  have wm := bwithin_A m 0 100000
  cases hm : inR m 0 100000
  · rw [hm] at wm
    have ht : tolE T A m = 2 := by unfold tolE; rw [he, hm]; rfl
    have g1 := firstWithin_err T A m hlo (by rw [ht]; decide)
    have g2 := countWithin_err T A m hlo (by rw [ht]; decide)
    have g3 := contra_err T A m hlo (by rw [ht]; decide)
    rw [ht] at g1 g2 g3
    refine ac_body Try.func11 rfl (by kernel_rfl) fun w0 ok => ?_; show AWp _ (ctx0 w0 ok _) _ (ARet _ _ _) (entry _)
    (repeat' (first | (with_reducible first | intro hg | refine awp_seq ?_ | refine q_seq ?_ | refine q_blk ?_ | refine awp_block ?_ | refine awp_skip ?_ | refine awp_ret ?_ | refine awp_exit ?_ | refine q_seqE ?_ | refine q_seqR ?_ | refine q_blkR ?_ | refine q_blkE ?_) | ((with_reducible refine awp_region ?_ ?_); (focus exact kr)) | ((with_reducible refine awp_region_any mixed ?_ ?_); (focus exact kr)) | ((with_reducible apply awp_condT); (focus exact rfl); (focus exact tt)) | ((with_reducible apply awp_condF); (focus exact rfl); (focus exact ff)) | ((with_reducible apply awp_condD); (focus exact rfl)) | ((with_reducible apply awp_condN); (focus exact rfl)) | ((with_reducible apply awp_cond); (focus exact rfl)) | ((with_reducible refine q_blkX ?_ ?_); (focus exact rfl)) | ((with_reducible refine r_nil (And.intro ?_ ?_)); (focus exact kr)) | (with_reducible refine r_nil ?_) | ((with_reducible apply r_put); (focus (first | exact dp | exact oc rfl (aw) | exact oc rfl (hf) | exact oc rfl (hcr) | exact oc rfl (hre) | exact oc rfl (wm) | exact oc rfl (g1) | exact oc rfl (g2) | exact oc rfl (g3)))) | ((with_reducible apply r_new); (focus exact dn)) | ((with_reducible apply r_app); (focus exact da)) | ((with_reducible apply r_set); (focus exact ds)) | ((with_reducible apply r_putY); (focus exact rfl); (focus exact rfl); (focus exact tf); (focus (first | exact dp | exact oc rfl (aw) | exact oc rfl (hf) | exact oc rfl (hcr) | exact oc rfl (hre) | exact oc rfl (wm) | exact oc rfl (g1) | exact oc rfl (g2) | exact oc rfl (g3)))) | ((with_reducible apply r_newY); (focus exact rfl); (focus exact rfl); (focus exact tf); (focus exact dn)) | ((with_reducible apply r_noT); (focus exact rfl); (focus exact rfl); (focus exact ff)) | ((with_reducible apply r_noF); (focus exact rfl); (focus exact rfl); (focus exact tt)) | ((with_reducible apply r_noU); (focus exact rfl); (focus exact rfl)) | ((with_reducible apply r_splitD); (focus exact rfl); (focus exact rfl)) | ((with_reducible apply r_split); (focus exact rfl); (focus exact rfl))))
    all_goals first | exact absurd rfl hg | (((with_reducible first | apply q_retR | apply q_retN); (focus exact rl)); first | rfl | exact rt_bool (decide_eq_true rfl).symm)
  rw [hm] at wm
  have hm0 := (inR_iff.1 hm).1
  have hset := allS_ok hok
  have hll := allS_len hok
  have gw := within2_A T A m hok hm0
  have g2 := countWithin_A T A (allS A) m hok hset (by omega) h00 hm
  have hcnt : cntK (keepB T A m) (allS A) (allS A).length = ((allS A).filter (keepB T A m)).length := by rw [cntK_eq _ _ _ (Nat.le_refl _), List.take_length]
  rw [hcnt] at g2
  have g3 := contra_A T A (allS A) m hok hset h00 hm
  have g4 := contradicting_A T A m hok
  rw [refP_eq hok.t9] at g4
  have hhead := List.head?_filter (p := keepB T A m) (l := allS A)
  have hsome : ∀ k, k < (allS A).length → keepB T A m ((allS A).getD k []) = true → contP T A m (allS A) = none := fun k hk h => contP_none hok.t9 hm0 hk h
  have hno := contP_some (T := T) (A := A) (m := m) (L := allS A) hok.t9 hok.t0 hm0
  have hlen := pickTo_len (f := contF T A m (allS A)) (2 ^ T.length - 1)
  have hmemL : ∀ l, l ∈ (allS A).filter (keepB T A m) → (∃ k, k < (allS A).length ∧ (allS A).getD k [] = l) ∧ keepB T A m l = true ∧ l.length ≤ 3 := fun l hl => by
    obtain ⟨h1, h2⟩ := List.mem_filter.1 hl
    obtain ⟨k, hk, rfl⟩ := List.mem_iff_getElem.1 h1
    have := (hset.ok _ h1).1
    have := hok.a3
    exact ⟨⟨k, hk, by rw [List.getD_eq_getElem?_getD, List.getElem?_eq_getElem hk]; rfl⟩, h2, by omega⟩
  have hin : ∀ k, k < (allS A).length → keepB T A m ((allS A).getD k []) = true → (allS A).getD k [] ∈ (allS A).filter (keepB T A m) := fun k hk h => List.mem_filter.2 ⟨by rw [List.getD_eq_getElem?_getD, List.getElem?_eq_getElem hk]; exact List.getElem_mem hk, h⟩
  have g1 := fun r h1 h2 => firstWithin_A T A (allS A) m hok hset h00 hm r h1 h2
  have hfa := fun k hk h1 h2 => find_at (p := keepB T A m) (L := allS A) (k := k) hk h1 h2
  have hfn := find_none (p := keepB T A m) (L := allS A)
  have hcd : contP T A m (allS A) = pickTo (contF T A m (allS A)) (2 ^ T.length - 1) := rfl
  rw [← hcd] at hlen
  generalize contP T A m (allS A) = w at *
  generalize hMM : (allS A).filter (keepB T A m) = M at *
  generalize allS A = L at *
  rcases M with _ | ⟨l0, M⟩
  · have hall : ∀ k, k < L.length → keepB T A m (L.getD k []) = false := fun k hk => Bool.eq_false_iff.2 fun h => by
      have := hin k hk h
      simp at this
    have g1' := g1 (.tuple [nilV, I 12]) (fun k hk _ h => by rw [hall k hk] at h; exact absurd h (by decide)) (fun _ => rfl)
    have hws := hno hall
    rcases w with _ | want
    · exact absurd hws (by decide)
    have hwl := hlen want rfl
    have g5 := ints_A want want (by omega) (by omega)
    rw [decide_eq_true rfl] at g5
    clear g1 hfa hfn hin hmemL hsome hno hhead hlen
    refine ac_body Try.func11 rfl (by kernel_rfl) fun w0 ok => ?_; show AWp _ (ctx0 w0 ok _) _ (ARet _ _ _) (entry _)
    (repeat' (first | (with_reducible first | intro hg | refine awp_seq ?_ | refine q_seq ?_ | refine q_blk ?_ | refine awp_block ?_ | refine awp_skip ?_ | refine awp_ret ?_ | refine awp_exit ?_ | refine q_seqE ?_ | refine q_seqR ?_ | refine q_blkR ?_ | refine q_blkE ?_) | ((with_reducible refine awp_region ?_ ?_); (focus exact kr)) | ((with_reducible refine awp_region_any mixed ?_ ?_); (focus exact kr)) | ((with_reducible apply awp_condT); (focus exact rfl); (focus exact tt)) | ((with_reducible apply awp_condF); (focus exact rfl); (focus exact ff)) | ((with_reducible apply awp_condD); (focus exact rfl)) | ((with_reducible apply awp_condN); (focus exact rfl)) | ((with_reducible apply awp_cond); (focus exact rfl)) | ((with_reducible refine q_blkX ?_ ?_); (focus exact rfl)) | ((with_reducible refine r_nil (And.intro ?_ ?_)); (focus exact kr)) | (with_reducible refine r_nil ?_) | ((with_reducible apply r_put); (focus (first | exact dp | exact oc rfl (aw) | exact oc rfl (hf) | exact oc rfl (hcr) | exact oc rfl (hre) | exact oc rfl (wm) | exact oc rfl (g1') | exact oc rfl (g2) | exact oc rfl (g3) | exact oc rfl (g4) | exact oc rfl (g5) | exact oc rfl (gw)))) | ((with_reducible apply r_new); (focus exact dn)) | ((with_reducible apply r_app); (focus exact da)) | ((with_reducible apply r_set); (focus exact ds)) | ((with_reducible apply r_putY); (focus exact rfl); (focus exact rfl); (focus exact tf); (focus (first | exact dp | exact oc rfl (aw) | exact oc rfl (hf) | exact oc rfl (hcr) | exact oc rfl (hre) | exact oc rfl (wm) | exact oc rfl (g1') | exact oc rfl (g2) | exact oc rfl (g3) | exact oc rfl (g4) | exact oc rfl (g5) | exact oc rfl (gw)))) | ((with_reducible apply r_newY); (focus exact rfl); (focus exact rfl); (focus exact tf); (focus exact dn)) | ((with_reducible apply r_noT); (focus exact rfl); (focus exact rfl); (focus exact ff)) | ((with_reducible apply r_noF); (focus exact rfl); (focus exact rfl); (focus exact tt)) | ((with_reducible apply r_noU); (focus exact rfl); (focus exact rfl)) | ((with_reducible apply r_splitD); (focus exact rfl); (focus exact rfl)) | ((with_reducible apply r_split); (focus exact rfl); (focus exact rfl))))
    all_goals first | exact absurd rfl hg | (((with_reducible first | apply q_retR | apply q_retN); (focus exact rl)); first | rfl | exact rt_bool (decide_eq_true rfl).symm)
  · obtain ⟨⟨k, hk, hkl⟩, hkeep, hl3⟩ := hmemL l0 List.mem_cons_self
    have hwn := hsome k hk (by rw [hkl]; exact hkeep)
    subst hwn
    have hfind : L.find? (keepB T A m) = some l0 := hhead.symm
    have g1' := g1 (.tuple [isl l0, I 0]) (fun k hk h1 h2 => by
      have h3 := hfa k hk h1 h2
      rw [hfind] at h3
      injection h3 with h3
      rw [h3]) (fun h => by
      have h3 := hfn h
      rw [hfind] at h3; cases h3)
    have g5 := ints_A l0 l0 (by omega) (by omega)
    rw [decide_eq_true rfl] at g5
    have hM0 : 0 < (l0 :: M).length := by simp
    clear g1 hfa hfn hin hmemL hsome hno hhead hlen
    refine ac_body Try.func11 rfl (by kernel_rfl) fun w0 ok => ?_; show AWp _ (ctx0 w0 ok _) _ (ARet _ _ _) (entry _)
    (repeat' (first | (with_reducible first | intro hg | refine awp_seq ?_ | refine q_seq ?_ | refine q_blk ?_ | refine awp_block ?_ | refine awp_skip ?_ | refine awp_ret ?_ | refine awp_exit ?_ | refine q_seqE ?_ | refine q_seqR ?_ | refine q_blkR ?_ | refine q_blkE ?_) | ((with_reducible refine awp_region ?_ ?_); (focus exact kr)) | ((with_reducible refine awp_region_any mixed ?_ ?_); (focus exact kr)) | ((with_reducible apply awp_condT); (focus exact rfl); (focus exact tt)) | ((with_reducible apply awp_condF); (focus exact rfl); (focus exact ff)) | ((with_reducible apply awp_condD); (focus exact rfl)) | ((with_reducible apply awp_condN); (focus exact rfl)) | ((with_reducible apply awp_cond); (focus exact rfl)) | ((with_reducible refine q_blkX ?_ ?_); (focus exact rfl)) | ((with_reducible refine r_nil (And.intro ?_ ?_)); (focus exact kr)) | (with_reducible refine r_nil ?_) | ((with_reducible apply r_put); (focus (first | exact o_loadM [] rfl hM0 | exact o_indexI (j := 0) (xs := l0 :: M) (f := isl) rfl rfl hM0 rfl | exact dp | exact oc rfl (aw) | exact oc rfl (hf) | exact oc rfl (hcr) | exact oc rfl (hre) | exact oc rfl (wm) | exact oc rfl (g1') | exact oc rfl (g2) | exact oc rfl (g3) | exact oc rfl (g4) | exact oc rfl (g5) | exact oc rfl (gw)))) | ((with_reducible apply r_new); (focus exact dn)) | ((with_reducible apply r_app); (focus exact da)) | ((with_reducible apply r_set); (focus exact ds)) | ((with_reducible apply r_putY); (focus exact rfl); (focus exact rfl); (focus exact tf); (focus (first | exact o_loadM [] rfl hM0 | exact o_indexI (j := 0) (xs := l0 :: M) (f := isl) rfl rfl hM0 rfl | exact dp | exact oc rfl (aw) | exact oc rfl (hf) | exact oc rfl (hcr) | exact oc rfl (hre) | exact oc rfl (wm) | exact oc rfl (g1') | exact oc rfl (g2) | exact oc rfl (g3) | exact oc rfl (g4) | exact oc rfl (g5) | exact oc rfl (gw)))) | ((with_reducible apply r_newY); (focus exact rfl); (focus exact rfl); (focus exact tf); (focus exact dn)) | ((with_reducible apply r_noT); (focus exact rfl); (focus exact rfl); (focus exact ff)) | ((with_reducible apply r_noF); (focus exact rfl); (focus exact rfl); (focus exact tt)) | ((with_reducible apply r_noU); (focus exact rfl); (focus exact rfl)) | ((with_reducible apply r_splitD); (focus exact rfl); (focus exact rfl)) | ((with_reducible apply r_split); (focus exact rfl); (focus exact rfl))))
    all_goals first | exact absurd rfl hg | (((with_reducible first | apply q_retR | apply q_retN); (focus exact rl)); first | rfl | exact rt_bool (decide_eq_true rfl).symm)

end Go.Proofs.Ytgklcfjfegceeaa
