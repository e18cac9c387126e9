/- The reference's responses and gain bounds. -/
import Derived.Test.YtiabcffcbhlbiaaGreatSr
import Derived.Test.YtiabcffcbhlbiaaGreatSp
import Derived.Test.YtiabcffcbhlbiaaGreatSq
import Derived.Test.YtiabcffcbhlbiaaGreatSk
import Derived.Test.YtiabcffcbhlbiaaGreatNf
set_option linter.unusedVariables false
set_option linter.unusedSimpArgs false
namespace Go.Proofs.YtiabcffcbhlbiaaGreat
open Go.RowKit
set_option maxRecDepth 20000
set_option maxHeartbeats 16000000

abbrev rspL (den : Int) (c : List Rg) (n : Nat) : List Rat := (List.range n).map (rsp den (losL c))
theorem rspL_len (den : Int) (c : List Rg) (n : Nat) : (rspL den c n).length = n := by simp [rspL]
theorem rspL_get (den : Int) (c : List Rg) {n t : Nat} (h : t < n) : (rspL den c n).getD t 0 = rsp den (losL c) t := by
  rw [List.getD_eq_getElem?_getD, List.getElem?_map, List.getElem?_range h]; rfl
theorem imp_vlt {c : List Rg} {den : Int} {s t : Nat} (ht : t < s + 1) : vlt den (rpl c (s + 1)) (one0 (s + 1)) (zer c.length) t = rsp den (losL c) t :=
  hst_imp (den := den) (c := losL c) (cs := rpl c (s + 1)) (dz := one0 (s + 1)) (x := zer c.length) (fun t ht => rep_getD _ _ (by rw [List.length_replicate] at ht; exact ht)) (one0_zero (by omega)) (one0_succ _) (zer_nth _) t (by rw [List.length_replicate]; exact ht) 0
theorem imp_qs {c : List Rg} {den : Int} (hL : LoopOk c den) {s : Nat} (hs : s ≤ 8) : QsOk den (zer c.length) (rpl c (s + 1)) (one0 (s + 1)) :=
  ⟨hL.d, by rw [lst_length]; exact hL.l1, by rw [lst_length]; exact hL.l3, fun i => by rw [zer_nth]; decide, by rw [List.length_replicate]; omega, by rw [lst_length]; exact cf_ok hL (los_cf (fun r hr => (hL.b r hr).2.2) _), by rw [List.length_replicate, one0_len]; exact Nat.le_refl _, by rw [one0_len]; omega, fun t => by
    rcases t with _ | t
    · rw [one0_zero (by omega)]; decide
    · rw [one0_succ]; decide⟩
theorem rsp_S {c : List Rg} {den : Int} (hL : LoopOk c den) {t : Nat} (ht : t ≤ 8) : RatS 3 (rsp den (losL c) t) := by
  have h := imp_qs hL (s := 8) (by decide)
  have hv := vlt_ov (dz := one0 9) h.d h.xb h.eb h.l3 h.cf (t := t) (by rw [List.length_replicate]; omega)
  rw [imp_vlt (by omega)] at hv
  have hD2 := pow_rng h.d (t := t + 1) (by omega)
  have hB := bB9 (t := t + 1) (by omega)
  exact hv.ratS (by omega) (by omega) (by omega)
theorem raS_app (A B : List Rat) : raS (A ++ B) = raS A ++ raS B := by simp [raS]
theorem out_drop {c : List Rg} {den : Int} (s : Nat) : (raS (outL den (rpl c (s + 1)) (one0 (s + 1)) (zer c.length) (s + 1))).drop (c.length * 4) = raS (rspL den c (s + 1)) := by
  unfold outL
  rw [raS_app, List.drop_left' (by rw [raS_len, List.length_reverse, List.length_map, lst_length])]
  congr 1
  exact List.map_congr_left fun t ht => imp_vlt (List.mem_range.1 ht)
theorem response_A (c : List Rg) (den : Int) (hL : LoopOk c den) (s : Nat) (hs : s ≤ 8) : AC Tryz.prog 90 [loV c den, I s] (.slice (s + 1) (raS (rspL den c (s + 1)))) := by
  have hl1 := hL.l1
  have hl3 := hL.l3
  have hS := states_A c den (zer c.length) (rpl c (s + 1)) (one0 (s + 1)) (imp_qs hL hs)
  have z1 : isl (zer c.length) = DV.slice c.length (ivs (zer c.length)) := by
    show DV.slice (zer c.length).length _ = _
    rw [lst_length]
  have z2 : llV (rpl c (s + 1)) = DV.slice (s + 1) (llS (rpl c (s + 1))) := by
    show DV.slice (rpl c (s + 1)).length _ = _
    rw [List.length_replicate]
  have z3 : (rpl c (s + 1)).length = s + 1 := List.length_replicate ..
  have z4 : (zer c.length).length = c.length := lst_length _ _
  rw [z1, z2, z3, z4] at hS
  have hod := out_drop (c := c) (den := den) s
  have hz0 : 0 < (zer (s + 1)).length := by rw [lst_length]; omega
  have hfz : AV.d (.slice (s + 1) (((ivs (one0 (s + 1))).drop 0).take ((s + 1) * 1))) = .d (isl (one0 (s + 1))) := by
    rw [List.drop_zero, isl_take _ (one0_len _)]
  refine ac_body Tryz.func90 rfl (by kernel_rfl) fun w0 ok => ?_; show AWp _ (ctx0 w0 ok _) _ (ARet _ _ _) (entry _)
  (repeat' ((fail_if_success (with_reducible show AWp _ _ (.region 4 _ _) _ _)); (first | (with_reducible first | intro hg | refine mv (by constructor) ?_) | ((with_reducible first | refine zR ?_ ?_ | refine zW mixed ?_ ?_); exact kr) | ((with_reducible apply zK); exact rfl; exact tf) | ((with_reducible apply zCD); exact rfl) | ((with_reducible apply zCN); exact rfl) | ((with_reducible apply zC); exact rfl) | ((with_reducible refine zX ?_ ?_); exact rfl) | ((with_reducible refine zE (And.intro ?_ ?_)); exact kr) | (with_reducible refine zE ?_) | ((with_reducible apply zP); exact dp) | ((with_reducible apply zN); (first | exact dn | exact o_makeSl (n := s + 1) (by exact congrArg (fun n : Int => AV.d (I n)) (by omega)) (by omega) (by omega) (zer_int _))) | ((with_reducible apply zA); exact da) | ((with_reducible apply zS); (first | exact o_storeLI rfl rfl rfl (by exact hz0) | exact ds)) | ((with_reducible apply zY); exact rfl; exact rfl; exact tf) | ((with_reducible apply zG); exact rfl; exact rfl; exact tf) | ((with_reducible apply zU); exact rfl; exact rfl) | ((with_reducible apply zD); exact rfl; exact rfl) | ((with_reducible apply zB); exact rfl; exact rfl))))
  refine awp_freeze 12 rfl ?_
  refine awp_cut [(1, .d (I s)), (2, .ptr 2 0), (5, .d nilV), (6, .d (isl (one0 (s + 1))))] [(2, ⟨24, [rgV c, I den]⟩)] (And.intro rfl (And.intro rfl (And.intro rfl (And.intro (hfz) trivial)))) (And.intro rfl trivial) ?_
  (repeat' (first | (with_reducible first | intro hg | refine mv (by constructor) ?_) | ((with_reducible first | refine zR ?_ ?_ | refine zW mixed ?_ ?_); exact kr) | ((with_reducible apply zK); exact rfl; exact tf) | ((with_reducible apply zCD); exact rfl) | ((with_reducible apply zCN); exact rfl) | ((with_reducible apply zC); exact rfl) | ((with_reducible refine zX ?_ ?_); exact rfl) | ((with_reducible refine zE (And.intro ?_ ?_)); exact kr) | (with_reducible refine zE ?_) | ((with_reducible apply zP); exact dp) | ((with_reducible apply zN); exact dn) | ((with_reducible apply zA); exact da) | ((with_reducible apply zS); exact ds) | ((with_reducible apply zY); exact rfl; exact rfl; exact tf) | ((with_reducible apply zG); exact rfl; exact rfl; exact tf) | ((with_reducible apply zU); exact rfl; exact rfl) | ((with_reducible apply zD); exact rfl; exact rfl) | ((with_reducible apply zB); exact rfl; exact rfl)))
  refine awp_loopL (α := Nat) (fun t => [(1, .d (I s)), (2, .ptr 2 0), (5, ownZ 39 1 t), (6, .d (isl (one0 (s + 1)))), (7, .d (I t))]) (fun t => (2, ⟨24, [rgV c, I den]⟩) :: ownM 39 25 (llS (rpl c t)) t) (fun t => t ≤ s + 1) (fun t => s + 1 - t) 0 (Nat.zero_le _) (And.intro rfl (And.intro rfl (And.intro rfl (And.intro rfl (And.intro rfl trivial))))) (And.intro rfl trivial) fun t ht => ?_
  by_cases hts : t < s + 1
  · have hsC := rpl_snoc c t
    have hlC := rpl_len c t
    clear hS hod hfz hz0 z1 z2 z3 z4
    rcases t with _ | t
    · (repeat' (first | (with_reducible first | intro hg | refine mv (by constructor) ?_) | ((with_reducible first | refine zR ?_ ?_ | refine zW mixed ?_ ?_); exact kr) | ((with_reducible apply zK); exact rfl; exact tf) | ((with_reducible apply zCD); exact rfl) | ((with_reducible apply zCN); exact rfl) | ((with_reducible apply zC); exact rfl) | ((with_reducible refine zX ?_ ?_); exact rfl) | ((with_reducible refine zE (And.intro ?_ ?_)); exact kr) | (with_reducible refine zE ?_) | ((with_reducible apply zP); exact dp) | ((with_reducible apply zN); exact dn) | ((with_reducible apply zA); exact da) | ((with_reducible apply zS); exact ds) | ((with_reducible apply zY); exact rfl; exact rfl; exact tf) | ((with_reducible apply zG); exact rfl; exact rfl; exact tf) | ((with_reducible apply zU); exact rfl; exact rfl) | ((with_reducible apply zD); exact rfl; exact rfl) | ((with_reducible apply zB); exact rfl; exact rfl)))
      refine awp_loopL (α := Nat) (fun i => [(1, .d (I s)), (2, .ptr 2 0), (5, .d nilV), (6, .d (isl (one0 (s + 1)))), (7, .d (I (0 : Nat))), (8, ownS 35 i), (9, .d (I i))]) (fun i => (2, ⟨24, [rgV c, I den]⟩) :: ownM 35 3 (ivs (lst (fun i => (c.getD i rg0).1) i)) i) (fun i => i ≤ c.length) (fun i => c.length - i) 0 (Nat.zero_le _) (And.intro rfl (And.intro rfl (And.intro rfl (And.intro rfl (And.intro rfl (And.intro rfl (And.intro rfl trivial))))))) (And.intro rfl trivial) fun i hi => ?_
      by_cases hil : i < c.length
      · have hsi : ivs (lst (fun i => (c.getD i rg0).1) i) ++ [I (c.getD i rg0).1] = ivs (lst (fun i => (c.getD i rg0).1) (i + 1)) := ivs_snoc _ _ rfl
        have hli : (ivs (lst (fun i => (c.getD i rg0).1) i)).length = i * 1 := by rw [ivs_len, Nat.mul_one]
        rcases i with _ | i
        · (repeat' (first | (with_reducible first | intro hg | refine mv (by constructor) ?_) | ((with_reducible first | refine zR ?_ ?_ | refine zW mixed ?_ ?_); exact kr) | ((with_reducible apply zK); exact rfl; exact tf) | ((with_reducible apply zCD); exact rfl) | ((with_reducible apply zCN); exact rfl) | ((with_reducible apply zC); exact rfl) | ((with_reducible refine zX ?_ ?_); exact rfl) | ((with_reducible refine zE (And.intro ?_ ?_)); exact kr) | (with_reducible refine zE ?_) | ((with_reducible apply zP); (first | exact o_indexF rg0 (j := 0) frC_len (by decide) rfl rfl (by omega) rfl | exact dp)) | ((with_reducible apply zN); exact dn) | ((with_reducible apply zA); exact da) | ((with_reducible apply zS); exact ds) | ((with_reducible apply zY); exact rfl; exact rfl; exact tf) | ((with_reducible apply zG); exact rfl; exact rfl; exact tf) | ((with_reducible apply zU); exact rfl; exact rfl) | ((with_reducible apply zD); exact rfl; exact rfl) | ((with_reducible apply zB); exact rfl; exact rfl)))
          exact ⟨1, hil, by omega, (And.intro rfl (And.intro rfl (And.intro rfl (And.intro rfl (And.intro rfl (And.intro rfl (And.intro rfl trivial))))))), (And.intro rfl (And.intro (congrArg (fun l => some (Blk.mk _ l)) hsi) trivial))⟩
        · (repeat' (first | (with_reducible first | intro hg | refine mv (by constructor) ?_) | ((with_reducible first | refine zR ?_ ?_ | refine zW mixed ?_ ?_); exact kr) | ((with_reducible apply zK); exact rfl; exact tf) | ((with_reducible apply zCD); exact rfl) | ((with_reducible apply zCN); exact rfl) | ((with_reducible apply zC); exact rfl) | ((with_reducible refine zX ?_ ?_); exact rfl) | ((with_reducible refine zE (And.intro ?_ ?_)); exact kr) | (with_reducible refine zE ?_) | ((with_reducible apply zP); (first | exact o_indexF rg0 (j := i + 1) frC_len (by decide) rfl rfl (by omega) rfl | exact dp)) | ((with_reducible apply zN); exact dn) | ((with_reducible apply zA); (first | ((apply o_app); (case hx => exact rfl); (case hm => exact rfl); (case hy => exact .own rfl rfl); (case hty => exact rfl); (case hl => solve | exact hli | rfl); (case hcl => solve | rfl | exact hli | simp); (case hpos => omega); (case hb => omega); (case hb2 => omega); (case hnew => exact rfl)) | ((apply o_app); (case hx => exact rfl); (case hm => exact rfl); (case hy => exact .sl rfl); (case hty => exact rfl); (case hl => solve | exact hli | rfl); (case hcl => solve | rfl | exact hli | simp); (case hpos => omega); (case hb => omega); (case hb2 => omega); (case hnew => exact rfl)) | exact da)) | ((with_reducible apply zS); exact ds) | ((with_reducible apply zY); exact rfl; exact rfl; exact tf) | ((with_reducible apply zG); exact rfl; exact rfl; exact tf) | ((with_reducible apply zU); exact rfl; exact rfl) | ((with_reducible apply zD); exact rfl; exact rfl) | ((with_reducible apply zB); exact rfl; exact rfl)))
          exact ⟨i + 1 + 1, hil, by omega, (And.intro rfl (And.intro rfl (And.intro rfl (And.intro rfl (And.intro rfl (And.intro rfl (And.intro rfl trivial))))))), (And.intro rfl (And.intro (congrArg (fun l => some (Blk.mk _ l)) hsi) trivial))⟩
      obtain rfl : i = c.length := by omega
      refine awp_own 8 35 (t := 3) (fun i => (c.getD i rg0).1) rfl (fun k hk => by rw [hk]; rfl) ?_
      rw [losL_lst]
      (repeat' (first | (with_reducible first | intro hg | refine mv (by constructor) ?_) | ((with_reducible first | refine zR ?_ ?_ | refine zW mixed ?_ ?_); exact kr) | ((with_reducible apply zK); exact rfl; exact tf) | ((with_reducible apply zCD); exact rfl) | ((with_reducible apply zCN); exact rfl) | ((with_reducible apply zC); exact rfl) | ((with_reducible refine zX ?_ ?_); exact rfl) | ((with_reducible refine zE (And.intro ?_ ?_)); exact kr) | (with_reducible refine zE ?_) | ((with_reducible apply zP); exact dp) | ((with_reducible apply zN); exact dn) | ((with_reducible apply zA); exact da) | ((with_reducible apply zS); exact ds) | ((with_reducible apply zY); exact rfl; exact rfl; exact tf) | ((with_reducible apply zG); exact rfl; exact rfl; exact tf) | ((with_reducible apply zU); exact rfl; exact rfl) | ((with_reducible apply zD); exact rfl; exact rfl) | ((with_reducible apply zB); exact rfl; exact rfl)))
      exact ⟨1, hts, by omega, (And.intro rfl (And.intro rfl (And.intro rfl (And.intro rfl (And.intro rfl trivial))))), (And.intro rfl (And.intro (congrArg (fun l => some (Blk.mk _ l)) hsC) trivial))⟩
    · (repeat' (first | (with_reducible first | intro hg | refine mv (by constructor) ?_) | ((with_reducible first | refine zR ?_ ?_ | refine zW mixed ?_ ?_); exact kr) | ((with_reducible apply zK); exact rfl; exact tf) | ((with_reducible apply zCD); exact rfl) | ((with_reducible apply zCN); exact rfl) | ((with_reducible apply zC); exact rfl) | ((with_reducible refine zX ?_ ?_); exact rfl) | ((with_reducible refine zE (And.intro ?_ ?_)); exact kr) | (with_reducible refine zE ?_) | ((with_reducible apply zP); exact dp) | ((with_reducible apply zN); exact dn) | ((with_reducible apply zA); exact da) | ((with_reducible apply zS); exact ds) | ((with_reducible apply zY); exact rfl; exact rfl; exact tf) | ((with_reducible apply zG); exact rfl; exact rfl; exact tf) | ((with_reducible apply zU); exact rfl; exact rfl) | ((with_reducible apply zD); exact rfl; exact rfl) | ((with_reducible apply zB); exact rfl; exact rfl)))
      refine awp_loopL (α := Nat) (fun i => [(1, .d (I s)), (2, .ptr 2 0), (5, .lsl 39 0 (t + 1) 1), (6, .d (isl (one0 (s + 1)))), (7, .d (I (t + 1 : Nat))), (8, ownS 35 i), (9, .d (I i))]) (fun i => (2, ⟨24, [rgV c, I den]⟩) :: (39, ⟨25, llS (rpl c (t + 1))⟩) :: ownM 35 3 (ivs (lst (fun i => (c.getD i rg0).1) i)) i) (fun i => i ≤ c.length) (fun i => c.length - i) 0 (Nat.zero_le _) (And.intro rfl (And.intro rfl (And.intro rfl (And.intro rfl (And.intro rfl (And.intro rfl (And.intro rfl trivial))))))) (And.intro rfl (And.intro rfl trivial)) fun i hi => ?_
      by_cases hil : i < c.length
      · have hsi : ivs (lst (fun i => (c.getD i rg0).1) i) ++ [I (c.getD i rg0).1] = ivs (lst (fun i => (c.getD i rg0).1) (i + 1)) := ivs_snoc _ _ rfl
        have hli : (ivs (lst (fun i => (c.getD i rg0).1) i)).length = i * 1 := by rw [ivs_len, Nat.mul_one]
        rcases i with _ | i
        · (repeat' (first | (with_reducible first | intro hg | refine mv (by constructor) ?_) | ((with_reducible first | refine zR ?_ ?_ | refine zW mixed ?_ ?_); exact kr) | ((with_reducible apply zK); exact rfl; exact tf) | ((with_reducible apply zCD); exact rfl) | ((with_reducible apply zCN); exact rfl) | ((with_reducible apply zC); exact rfl) | ((with_reducible refine zX ?_ ?_); exact rfl) | ((with_reducible refine zE (And.intro ?_ ?_)); exact kr) | (with_reducible refine zE ?_) | ((with_reducible apply zP); (first | exact o_indexF rg0 (j := 0) frC_len (by decide) rfl rfl (by omega) rfl | exact dp)) | ((with_reducible apply zN); exact dn) | ((with_reducible apply zA); exact da) | ((with_reducible apply zS); exact ds) | ((with_reducible apply zY); exact rfl; exact rfl; exact tf) | ((with_reducible apply zG); exact rfl; exact rfl; exact tf) | ((with_reducible apply zU); exact rfl; exact rfl) | ((with_reducible apply zD); exact rfl; exact rfl) | ((with_reducible apply zB); exact rfl; exact rfl)))
          exact ⟨1, hil, by omega, (And.intro rfl (And.intro rfl (And.intro rfl (And.intro rfl (And.intro rfl (And.intro rfl (And.intro rfl trivial))))))), (And.intro rfl (And.intro rfl (And.intro (congrArg (fun l => some (Blk.mk _ l)) hsi) trivial)))⟩
        · (repeat' (first | (with_reducible first | intro hg | refine mv (by constructor) ?_) | ((with_reducible first | refine zR ?_ ?_ | refine zW mixed ?_ ?_); exact kr) | ((with_reducible apply zK); exact rfl; exact tf) | ((with_reducible apply zCD); exact rfl) | ((with_reducible apply zCN); exact rfl) | ((with_reducible apply zC); exact rfl) | ((with_reducible refine zX ?_ ?_); exact rfl) | ((with_reducible refine zE (And.intro ?_ ?_)); exact kr) | (with_reducible refine zE ?_) | ((with_reducible apply zP); (first | exact o_indexF rg0 (j := i + 1) frC_len (by decide) rfl rfl (by omega) rfl | exact dp)) | ((with_reducible apply zN); exact dn) | ((with_reducible apply zA); (first | ((apply o_app); (case hx => exact rfl); (case hm => exact rfl); (case hy => exact .own rfl rfl); (case hty => exact rfl); (case hl => solve | exact hli | rfl); (case hcl => solve | rfl | exact hli | simp); (case hpos => omega); (case hb => omega); (case hb2 => omega); (case hnew => exact rfl)) | ((apply o_app); (case hx => exact rfl); (case hm => exact rfl); (case hy => exact .sl rfl); (case hty => exact rfl); (case hl => solve | exact hli | rfl); (case hcl => solve | rfl | exact hli | simp); (case hpos => omega); (case hb => omega); (case hb2 => omega); (case hnew => exact rfl)) | exact da)) | ((with_reducible apply zS); exact ds) | ((with_reducible apply zY); exact rfl; exact rfl; exact tf) | ((with_reducible apply zG); exact rfl; exact rfl; exact tf) | ((with_reducible apply zU); exact rfl; exact rfl) | ((with_reducible apply zD); exact rfl; exact rfl) | ((with_reducible apply zB); exact rfl; exact rfl)))
          exact ⟨i + 1 + 1, hil, by omega, (And.intro rfl (And.intro rfl (And.intro rfl (And.intro rfl (And.intro rfl (And.intro rfl (And.intro rfl trivial))))))), (And.intro rfl (And.intro rfl (And.intro (congrArg (fun l => some (Blk.mk _ l)) hsi) trivial)))⟩
      obtain rfl : i = c.length := by omega
      refine awp_own 8 35 (t := 3) (fun i => (c.getD i rg0).1) rfl (fun k hk => by rw [hk]; rfl) ?_
      rw [losL_lst]
      (repeat' (first | (with_reducible first | intro hg | refine mv (by constructor) ?_) | ((with_reducible first | refine zR ?_ ?_ | refine zW mixed ?_ ?_); exact kr) | ((with_reducible apply zK); exact rfl; exact tf) | ((with_reducible apply zCD); exact rfl) | ((with_reducible apply zCN); exact rfl) | ((with_reducible apply zC); exact rfl) | ((with_reducible refine zX ?_ ?_); exact rfl) | ((with_reducible refine zE (And.intro ?_ ?_)); exact kr) | (with_reducible refine zE ?_) | ((with_reducible apply zP); exact dp) | ((with_reducible apply zN); exact dn) | ((with_reducible apply zA); (first | ((apply o_app); (case hx => exact rfl); (case hm => exact rfl); (case hy => exact .own rfl rfl); (case hty => exact rfl); (case hl => solve | exact hlC | rfl); (case hcl => solve | rfl | exact hlC | simp); (case hpos => omega); (case hb => omega); (case hb2 => omega); (case hnew => exact rfl)) | ((apply o_app); (case hx => exact rfl); (case hm => exact rfl); (case hy => exact .sl rfl); (case hty => exact rfl); (case hl => solve | exact hlC | rfl); (case hcl => solve | rfl | exact hlC | simp); (case hpos => omega); (case hb => omega); (case hb2 => omega); (case hnew => exact rfl)) | exact da)) | ((with_reducible apply zS); exact ds) | ((with_reducible apply zY); exact rfl; exact rfl; exact tf) | ((with_reducible apply zG); exact rfl; exact rfl; exact tf) | ((with_reducible apply zU); exact rfl; exact rfl) | ((with_reducible apply zD); exact rfl; exact rfl) | ((with_reducible apply zB); exact rfl; exact rfl)))
      exact ⟨t + 1 + 1, hts, by omega, (And.intro rfl (And.intro rfl (And.intro rfl (And.intro rfl (And.intro rfl trivial))))), (And.intro rfl (And.intro (congrArg (fun l => some (Blk.mk _ l)) hsC) trivial))⟩
  obtain rfl : t = s + 1 := by omega
  refine awp_ownZ 5 39 1 (t := 25) (llS (rpl c (s + 1))) (rpl_len c (s + 1)) rfl (fun k hk => rfl) ?_
  (repeat' (first | (with_reducible first | intro hg | refine mv (by constructor) ?_) | ((with_reducible first | refine zR ?_ ?_ | refine zW mixed ?_ ?_); exact kr) | ((with_reducible apply zK); exact rfl; exact tf) | ((with_reducible apply zCD); exact rfl) | ((with_reducible apply zCN); exact rfl) | ((with_reducible apply zC); exact rfl) | ((with_reducible refine zX ?_ ?_); exact rfl) | ((with_reducible refine zE (And.intro ?_ ?_)); exact kr) | (with_reducible refine zE ?_) | ((with_reducible apply zP); (first | exact o_makeSlD (n := c.length) rfl (by omega) (by omega) (zer_int _) | exact o_sliceL (l := c.length) rfl rfl (by omega) | exact dp | exact oc rfl (hS))) | ((with_reducible apply zN); exact dn) | ((with_reducible apply zA); exact da) | ((with_reducible apply zS); exact ds) | ((with_reducible apply zY); exact rfl; exact rfl; exact tf) | ((with_reducible apply zG); exact rfl; exact rfl; exact tf) | ((with_reducible apply zU); exact rfl; exact rfl) | ((with_reducible apply zD); exact rfl; exact rfl) | ((with_reducible apply zB); exact rfl; exact rfl)))
  ((with_reducible first | apply q_retR | apply q_retN); exact rl)
  show DV.slice (s + 1) _ = DV.slice (c.length + (s + 1) - c.length) (((raS (outL den (rpl c (s + 1)) (one0 (s + 1)) (zer c.length) (s + 1))).drop (c.length * 4)).take ((c.length + (s + 1) - c.length) * 4))
  rw [hod, show c.length + (s + 1) - c.length = s + 1 by omega, List.take_of_length_le (by rw [raS_len, rspL_len]; omega)]
theorem rsV_list (c : List Rg) (den : Int) (s : Nat) : (1, 1) :: (List.range s).map (fun t => qF (rsp den (losL c) (t + 1))) = (List.range (s + 1)).map fun t => qF (rsp den (losL c) t) := by
  rw [List.range_succ_eq_map, List.map_cons, List.map_map]; rfl
theorem qresponseOf_A (c : List Rg) (den : Int) (hL : LoopOk c den) (s : Nat) (hs : s ≤ 8) : AC Tryz.prog 38 [loV c den, I s] (.tuple [frV (rsV c den s).1, I (rsV c den s).2]) := by
  have wr := response_A c den hL s hs
  have hrl := rspL_len den c (s + 1)
  obtain ⟨R, hR⟩ : ∃ R, R = rsV c den s := ⟨_, rfl⟩
  rw [← hR]
  refine ac_body Tryz.func38 rfl (by kernel_rfl) fun w0 ok => ?_; show AWp _ (ctx0 w0 ok _) _ (ARet _ _ _) (entry _)
  (repeat' (first | (with_reducible first | intro hg | refine mv (by constructor) ?_) | ((with_reducible first | refine zR ?_ ?_ | refine zW mixed ?_ ?_); exact kr) | ((with_reducible apply zK); exact rfl; exact tf) | ((with_reducible apply zCD); exact rfl) | ((with_reducible apply zCN); exact rfl) | ((with_reducible apply zC); exact rfl) | ((with_reducible refine zX ?_ ?_); exact rfl) | ((with_reducible refine zE (And.intro ?_ ?_)); exact kr) | (with_reducible refine zE ?_) | ((with_reducible apply zP); (first | exact dp | exact oc rfl (wr))) | ((with_reducible apply zN); exact dn) | ((with_reducible apply zA); exact da) | ((with_reducible apply zS); exact ds) | ((with_reducible apply zY); exact rfl; exact rfl; exact tf) | ((with_reducible apply zG); exact rfl; exact rfl; exact tf) | ((with_reducible apply zU); exact rfl; exact rfl) | ((with_reducible apply zD); exact rfl; exact rfl) | ((with_reducible apply zB); exact rfl; exact rfl)))
  refine awp_loopL (α := Nat) (fun t => [(6, .d (.slice (s + 1) (raS (rspL den c (s + 1))))), (7, ownZ 34 2 t), (8, .d (I t))]) (fun t => ownM 34 56 (rgS ((List.range t).map fun t => qF (rsp den (losL c) t))) t) (fun t => t ≤ s + 1 ∧ ∀ k, k < t → smQ (rsp den (losL c) k) = true) (fun t => s + 1 - t) 0 ⟨Nat.zero_le _, fun k hk => absurd hk (by omega)⟩ (And.intro rfl (And.intro rfl (And.intro rfl trivial))) trivial fun t ⟨ht, hall⟩ => ?_
  have hln : (rgS ((List.range t).map fun t => qF (rsp den (losL c) t))).length = t * 2 := by rw [rgS_len, List.length_map, List.length_range]
  by_cases htl : t < s + 1
  rotate_left
  · obtain rfl : t = s + 1 := by omega
    have hRy : R = ((List.range (s + 1)).map fun t => qF (rsp den (losL c) t), 0) := by
      rw [hR, ← rsV_list]
      unfold rsV
      rw [List.all_eq_true.2 fun t ht => hall (t + 1) (by have := List.mem_range.1 ht; omega)]
      rfl
    rw [hRy]
    refine awp_ownZ 7 34 2 (t := 56) (rgS ((List.range (s + 1)).map fun t => qF (rsp den (losL c) t))) hln rfl (fun k hk => rfl) ?_
    (repeat' (first | (with_reducible first | intro hg | refine mv (by constructor) ?_) | ((with_reducible first | refine zR ?_ ?_ | refine zW mixed ?_ ?_); exact kr) | ((with_reducible apply zK); exact rfl; exact tf) | ((with_reducible apply zCD); exact rfl) | ((with_reducible apply zCN); exact rfl) | ((with_reducible apply zC); exact rfl) | ((with_reducible refine zX ?_ ?_); exact rfl) | ((with_reducible refine zE (And.intro ?_ ?_)); exact kr) | (with_reducible refine zE ?_) | ((with_reducible apply zP); exact dp) | ((with_reducible apply zN); exact dn) | ((with_reducible apply zA); exact da) | ((with_reducible apply zS); exact ds) | ((with_reducible apply zY); exact rfl; exact rfl; exact tf) | ((with_reducible apply zG); exact rfl; exact rfl; exact tf) | ((with_reducible apply zU); exact rfl; exact rfl) | ((with_reducible apply zD); exact rfl; exact rfl) | ((with_reducible apply zB); exact rfl; exact rfl)))
    ((with_reducible first | apply q_retR | apply q_retN); exact rl)
    show DV.tuple [.slice ((List.range (s + 1)).map fun t => qF (rsp den (losL c) t)).length _, I 0] = DV.tuple [.slice (s + 1) _, I 0]
    rw [List.length_map, List.length_range]
  have hg := rspL_get den c htl
  have wfr := qfrac_A (rsp den (losL c) t) ((rsp_S hL (by omega)).mono (by decide))
  have hos : rgS ((List.range t).map fun t => qF (rsp den (losL c) t)) ++ frC (qF (rsp den (losL c) t)) = rgS ((List.range (t + 1)).map fun t => qF (rsp den (losL c) t)) := by
    rw [List.range_succ, List.map_append]
    exact rgS_snoc _ _
  clear wr
  cases hsm : smQ (rsp den (losL c) t)
  · have hq : frQ (rsp den (losL c) t) = ((0, 0), 8) := by unfold frQ; rw [hsm]; rfl
    have hRn : R = ([], 8) := by
      rw [hR]
      unfold rsV
      have : ((List.range s).all fun t => smQ (rsp den (losL c) (t + 1))) = false := by
        rw [← Bool.not_eq_true, List.all_eq_true]
        intro h2
        rcases t with _ | t
        · cases hsm
        · have := h2 t (List.mem_range.2 (by omega))
          rw [hsm] at this; cases this
      rw [this]; rfl
    rw [hq, ← hg] at wfr
    rw [hRn]
    clear hall hR
    (repeat' ((fail_if_success (with_reducible show AWp _ _ .ret _ _)); (first | (with_reducible first | intro hg | refine mv (by constructor) ?_) | ((with_reducible first | refine zR ?_ ?_ | refine zW mixed ?_ ?_); exact kr) | ((with_reducible apply zK); exact rfl; exact tf) | ((with_reducible apply zCD); exact rfl) | ((with_reducible apply zCN); exact rfl) | ((with_reducible apply zC); exact rfl) | ((with_reducible refine zX ?_ ?_); exact rfl) | ((with_reducible refine zE (And.intro ?_ ?_)); exact kr) | (with_reducible refine zE ?_) | ((with_reducible apply zP); (first | exact o_indexF (0 : Rat) (f := ratC) (xs := rspL den c (s + 1)) (j := t) ratC_len (by decide) rfl rfl (by omega) (by omega) | exact dp | exact oc rfl (wfr))) | ((with_reducible apply zN); exact dn) | ((with_reducible apply zA); exact da) | ((with_reducible apply zS); exact ds) | ((with_reducible apply zY); exact rfl; exact rfl; exact tf) | ((with_reducible apply zG); exact rfl; exact rfl; exact tf) | ((with_reducible apply zU); exact rfl; exact rfl) | ((with_reducible apply zD); exact rfl; exact rfl) | ((with_reducible apply zB); exact rfl; exact rfl))))
    refine awp_nil 4 rfl ?_
    exact zF
  have hq : frQ (rsp den (losL c) t) = (qF (rsp den (losL c) t), 0) := by unfold frQ; rw [hsm]; rfl
  rw [hq] at wfr
  dsimp only at wfr
  have hall2 : ∀ k, k < t + 1 → smQ (rsp den (losL c) k) = true := fun k hk => by
    by_cases e : k = t
    · rw [e]; exact hsm
    · exact hall k (by omega)
  rw [show ratV (rsp den (losL c) t) = ratV ((rspL den c (s + 1)).getD t 0) by rw [hg]] at wfr
  clear hall hR hg
  rcases t with _ | t
  · (repeat' (first | (with_reducible first | intro hg | refine mv (by constructor) ?_) | ((with_reducible first | refine zR ?_ ?_ | refine zW mixed ?_ ?_); exact kr) | ((with_reducible apply zK); exact rfl; exact tf) | ((with_reducible apply zCD); exact rfl) | ((with_reducible apply zCN); exact rfl) | ((with_reducible apply zC); exact rfl) | ((with_reducible refine zX ?_ ?_); exact rfl) | ((with_reducible refine zE (And.intro ?_ ?_)); exact kr) | (with_reducible refine zE ?_) | ((with_reducible apply zP); (first | exact o_indexF (0 : Rat) (f := ratC) (xs := rspL den c (s + 1)) (j := 0) ratC_len (by decide) rfl rfl (by omega) (by omega) | exact dp | exact oc rfl (wfr))) | ((with_reducible apply zN); exact dn) | ((with_reducible apply zA); exact da) | ((with_reducible apply zS); exact ds) | ((with_reducible apply zY); exact rfl; exact rfl; exact tf) | ((with_reducible apply zG); exact rfl; exact rfl; exact tf) | ((with_reducible apply zU); exact rfl; exact rfl) | ((with_reducible apply zD); exact rfl; exact rfl) | ((with_reducible apply zB); exact rfl; exact rfl)))
    exact ⟨1, ⟨htl, hall2⟩, by omega, (And.intro rfl (And.intro rfl (And.intro rfl trivial))), (And.intro (congrArg (fun l => some (Blk.mk _ l)) hos) trivial)⟩
  · (repeat' (first | (with_reducible first | intro hg | refine mv (by constructor) ?_) | ((with_reducible first | refine zR ?_ ?_ | refine zW mixed ?_ ?_); exact kr) | ((with_reducible apply zK); exact rfl; exact tf) | ((with_reducible apply zCD); exact rfl) | ((with_reducible apply zCN); exact rfl) | ((with_reducible apply zC); exact rfl) | ((with_reducible refine zX ?_ ?_); exact rfl) | ((with_reducible refine zE (And.intro ?_ ?_)); exact kr) | (with_reducible refine zE ?_) | ((with_reducible apply zP); (first | exact o_indexF (0 : Rat) (f := ratC) (xs := rspL den c (s + 1)) (j := t + 1) ratC_len (by decide) rfl rfl (by omega) (by omega) | exact dp | exact oc rfl (wfr))) | ((with_reducible apply zN); exact dn) | ((with_reducible apply zA); (first | ((apply o_app); (case hx => exact rfl); (case hm => exact rfl); (case hy => exact .own rfl rfl); (case hty => exact rfl); (case hl => solve | exact hln | rfl); (case hcl => solve | rfl | exact hln | simp); (case hpos => omega); (case hb => omega); (case hb2 => omega); (case hnew => exact rfl)) | ((apply o_app); (case hx => exact rfl); (case hm => exact rfl); (case hy => exact .sl rfl); (case hty => exact rfl); (case hl => solve | exact hln | rfl); (case hcl => solve | rfl | exact hln | simp); (case hpos => omega); (case hb => omega); (case hb2 => omega); (case hnew => exact rfl)) | exact da)) | ((with_reducible apply zS); exact ds) | ((with_reducible apply zY); exact rfl; exact rfl; exact tf) | ((with_reducible apply zG); exact rfl; exact rfl; exact tf) | ((with_reducible apply zU); exact rfl; exact rfl) | ((with_reducible apply zD); exact rfl; exact rfl) | ((with_reducible apply zB); exact rfl; exact rfl)))
    exact ⟨t + 1 + 1, ⟨htl, hall2⟩, by omega, (And.intro rfl (And.intro rfl (And.intro rfl trivial))), (And.intro (congrArg (fun l => some (Blk.mk _ l)) hos) trivial)⟩
theorem qsize_A (r : Rat) : AC Tryz.prog 130 [ratV r] (ratV (absR r)) := by
  have w1 := ratioSign_A r
  have w2 := ratioNeg_A r
  unfold absR
  by_cases h : r < 0
  · have hs : r.num.sign = -1 := Int.sign_eq_neg_one_of_neg (Int.not_le.1 fun h2 => absurd h (Rat.not_lt.2 (Rat.num_nonneg.1 h2)))
    rw [hs] at w1
    rw [decide_eq_true h]
    refine ac_body Tryz.func130 rfl (by kernel_rfl) fun w0 ok => ?_; show AWp _ (ctx0 w0 ok _) _ (ARet _ _ _) (entry _)
    exact zF
  · have hs : 0 ≤ r.num.sign := by
      have := Rat.num_nonneg.2 (Rat.not_lt.1 h)
      rcases Int.lt_or_eq_of_le this with h2 | h2
      · rw [Int.sign_eq_one_of_pos h2]; decide
      · rw [← h2]; decide
    rw [decide_eq_false h]
    generalize r.num.sign = u at w1 hs
    refine ac_body Tryz.func130 rfl (by kernel_rfl) fun w0 ok => ?_; show AWp _ (ctx0 w0 ok _) _ (ARet _ _ _) (entry _)
    exact zF
def kR7 : Nat → Nat
  | 0 => 3
  | t + 1 => kR7 t + 6 + kR7 t + 6 + 1
theorem kR7_le : ∀ {t : Nat}, t ≤ 6 → kR7 t ≤ 2000 := by
  intro t ht
  have : ∀ t, t < 7 → kR7 t ≤ 2000 := by decide
  exact this t (by omega)
theorem sum_S7 {f : Nat → Rat} : ∀ {n : Nat}, (∀ t, t < n → RatS 6 (f t)) → RatS (kR7 n) (sumQ f n)
  | 0, _ => (int_ratS (n := 0) (by decide) : RatS 3 ((0 : Int) : Rat))
  | n + 1, h => by
    unfold sumQ kR7
    exact (sum_S7 fun t ht => h t (by omega)).add (h n (by omega))
theorem wtR_S {w : List Int} {st : List Rat} : ∀ {i : Nat}, (∀ j, j < i → RatS 6 (absR (st.getD j 0) / ((nth w j : Int) : Rat))) → RatS 6 (wtR w st i)
  | 0, _ => ((int_ratS (n := 0) (by decide) : RatS 3 ((0 : Int) : Rat))).mono (by decide)
  | i + 1, h => by
    unfold wtR
    cases decide (wtR w st i < absR (st.getD i 0) / ((nth w i : Int) : Rat))
    · exact wtR_S fun j hj => h j (by omega)
    · exact h i (by omega)


end Go.Proofs.YtiabcffcbhlbiaaGreat
