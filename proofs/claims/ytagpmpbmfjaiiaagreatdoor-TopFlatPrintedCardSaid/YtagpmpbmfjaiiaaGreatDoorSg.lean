/- slices.Concat; the strings of rules and of profiles, by the package and by the reference. -/
import Derived.Test.YtagpmpbmfjaiiaaGreatDoorSl
import Derived.Test.YtagpmpbmfjaiiaaGreatDoorNA
set_option linter.unusedVariables false
set_option linter.unusedSimpArgs false
namespace Go.Proofs.YtagpmpbmfjaiiaaGreatDoor
open Go.RowKit
set_option maxRecDepth 20000
set_option maxHeartbeats 8000000

theorem isl_takeL {xs : List Int} {n : Nat} (h : xs.length = n) : DV.slice n ((ivs xs).take (n * 1)) = isl xs := by
  subst h
  rw [List.take_of_length_le (by simp [ivs])]
theorem grow_O (n : Nat) (h0 : 0 < n) (hn : n ≤ 1000000) : ACo Tryz.prog 94 [nilV, I n] 3 0 1 [] := by
  refine aco_body Tryz.func94 rfl (by kernel_rfl) fun w0 ok => ?_; show AWp _ (ctx0 w0 ok _) _ (ARetO _ _ _ _ _) (entry _)
  (repeat' (first | (with_reducible first | intro hg | refine mv (by constructor) ?_) | ((with_reducible first | refine zR ?_ ?_ | refine zW mixed ?_ ?_); exact kr) | ((with_reducible apply zK); exact rfl; exact tf) | ((with_reducible apply zCD); exact rfl) | ((with_reducible apply zCN); exact rfl) | ((with_reducible apply zC); exact rfl) | ((with_reducible refine zX ?_ ?_); exact rfl) | ((with_reducible refine zE (And.intro ?_ ?_)); exact kr) | (with_reducible refine zE ?_) | ((with_reducible apply zP); (first | exact o_capN rfl | exact o_sliceNH rfl rfl | exact o_sliceOH (h := 0) rfl rfl (by omega) | exact dp)) | ((with_reducible apply zN); (first | exact dn | exact o_appZ (m := n) rfl rfl (by omega) (by omega) (by omega))) | ((with_reducible apply zA); exact da) | ((with_reducible apply zS); exact ds) | ((with_reducible apply zY); exact rfl; exact rfl; exact tf) | ((with_reducible apply zG); exact rfl; exact rfl; exact tf) | ((with_reducible apply zU); exact rfl; exact rfl) | ((with_reducible apply zD); exact rfl; exact rfl) | ((with_reducible apply zB); exact rfl; exact rfl)))
  ((with_reducible first | apply q_retO | apply q_retON); exact rfl; exact rfl; exact rfl)
def nm2 : Nat → Nat
  | 0 => 24
  | _ + 1 => 33
theorem flat_snoc {L : List (List Int)} {k : Nat} (h : k < L.length) : (L.take (k + 1)).flatten = (L.take k).flatten ++ L.getD k [] := by
  rw [List.take_add_one, List.getD_eq_getElem?_getD, List.getElem?_eq_getElem h, List.flatten_append]
  simp
theorem flat_le (L : List (List Int)) (k : Nat) : (L.take k).flatten.length ≤ L.flatten.length := by
  conv => rhs; rw [← List.take_append_drop k L, List.flatten_append, List.length_append]
  omega
theorem concat_O (a : List Int) (L : List (List Int)) (ha : 0 < a.length) (hL : L.length ≤ 1000) (hn : ((a :: L).flatten).length ≤ 1000000) : ACo Tryz.prog 52 [.slice (a :: L).length ((a :: L).map isl)] 3 ((a :: L).flatten).length 1 (ivs ((a :: L).flatten)) := by
  have hfl := flat_le (a :: L)
  have hpos : 0 < ((a :: L).flatten).length := by rw [List.flatten_cons, List.length_append]; omega
  have hget : ∀ k, k < (a :: L).length → (((a :: L).map isl).drop k)[0]? = some (isl ((a :: L).getD k [])) := fun k hk => get_map [] hk
  have hsn : ∀ k, k < (a :: L).length → ((a :: L).take (k + 1)).flatten = ((a :: L).take k).flatten ++ (a :: L).getD k [] := fun k hk => flat_snoc hk
  have hz : ((a :: L).getD 0 []) = a := rfl
  have hend : ((a :: L).take (a :: L).length).flatten = (a :: L).flatten := by rw [List.take_length]
  have hnil : ((a :: L).take 0).flatten = [] := rfl
  have hll : (a :: L).length ≤ 1001 := by rw [List.length_cons]; omega
  have hg := fun n h0 h1 => grow_O n h0 h1
  generalize a :: L = X at *
  have hgr := hg X.flatten.length hpos hn
  refine aco_body Tryz.func52 rfl (by kernel_rfl) fun w0 ok => ?_; show AWp _ (ctx0 w0 ok _) _ (ARetO _ _ _ _ _) (entry _)
  (repeat' (first | (with_reducible first | intro hg | refine mv (by constructor) ?_) | ((with_reducible first | refine zR ?_ ?_ | refine zW mixed ?_ ?_); exact kr) | ((with_reducible apply zK); exact rfl; exact tf) | ((with_reducible apply zCD); exact rfl) | ((with_reducible apply zCN); exact rfl) | ((with_reducible apply zC); exact rfl) | ((with_reducible refine zX ?_ ?_); exact rfl) | ((with_reducible refine zE (And.intro ?_ ?_)); exact kr) | (with_reducible refine zE ?_) | ((with_reducible apply zP); exact dp) | ((with_reducible apply zN); exact dn) | ((with_reducible apply zA); exact da) | ((with_reducible apply zS); exact ds) | ((with_reducible apply zY); exact rfl; exact rfl; exact tf) | ((with_reducible apply zG); exact rfl; exact rfl; exact tf) | ((with_reducible apply zU); exact rfl; exact rfl) | ((with_reducible apply zD); exact rfl; exact rfl) | ((with_reducible apply zB); exact rfl; exact rfl)))
  refine awp_loopL (α := Nat) (fun k => [(0, .d (.slice X.length (X.map isl))), (3, .d (I ((X.take k).flatten.length))), (9, .d (.slice X.length (X.map isl))), (10, .d (I X.length)), (11, .d (I k))]) (fun _ => []) (fun k => k ≤ X.length) (fun k => X.length - k) 0 (Nat.zero_le _) (And.intro rfl (And.intro rfl (And.intro rfl (And.intro rfl (And.intro rfl trivial))))) trivial fun k hk => ?_
  by_cases hlt : k < X.length
  · have h1 := hget k hlt
    have h2 := hsn k hlt
    have h3 := hfl k
    have h4 := hfl (k + 1)
    rw [h2, List.length_append] at h4
    obtain ⟨b, hb⟩ : ∃ b, X.getD k [] = b := ⟨_, rfl⟩
    rw [hb] at h1 h2 h4
    have h5 : AV.d (I (((X.take k).flatten.length : Int) + (b.length : Int))) = AV.d (I (((X.take (k + 1)).flatten.length : Nat) : Int)) := by rw [h2, List.length_append]; rfl
    clear hg hgr hsn hget hfl hz hend hnil
    (repeat' (first | (with_reducible first | intro hg | refine mv (by constructor) ?_) | ((with_reducible first | refine zR ?_ ?_ | refine zW mixed ?_ ?_); exact kr) | ((with_reducible apply zK); exact rfl; exact tf) | ((with_reducible apply zCD); exact rfl) | ((with_reducible apply zCN); exact rfl) | ((with_reducible apply zC); exact rfl) | ((with_reducible refine zX ?_ ?_); exact rfl) | ((with_reducible refine zE (And.intro ?_ ?_)); exact kr) | (with_reducible refine zE ?_) | ((with_reducible apply zP); (first | exact o_indexI (xs := X) (f := isl) rfl rfl hlt rfl | exact o_loadR1 rfl h1 | exact dp)) | ((with_reducible apply zN); exact dn) | ((with_reducible apply zA); exact da) | ((with_reducible apply zS); exact ds) | ((with_reducible apply zY); exact rfl; exact rfl; exact tf) | ((with_reducible apply zG); exact rfl; exact rfl; exact tf) | ((with_reducible apply zU); exact rfl; exact rfl) | ((with_reducible apply zD); exact rfl; exact rfl) | ((with_reducible apply zB); exact rfl; exact rfl)))
    exact ⟨k + 1, hlt, by omega, (And.intro rfl (And.intro (h5) (And.intro (rfl) (And.intro (rfl) (And.intro (rfl) trivial))))), trivial⟩
  obtain rfl : k = X.length := by omega
  rw [hend]
  clear hg
  (repeat' (first | (with_reducible first | intro hg | refine mv (by constructor) ?_) | ((with_reducible first | refine zR ?_ ?_ | refine zW mixed ?_ ?_); exact kr) | ((with_reducible apply zK); exact rfl; exact tf) | ((with_reducible apply zCD); exact rfl) | ((with_reducible apply zCN); exact rfl) | ((with_reducible apply zC); exact rfl) | ((with_reducible refine zX ?_ ?_); exact rfl) | ((with_reducible refine zE (And.intro ?_ ?_)); exact kr) | (with_reducible refine zE ?_) | ((with_reducible apply zP); exact dp) | ((with_reducible apply zN); (first | exact dn | exact o_callO rfl hgr (.inl rfl))) | ((with_reducible apply zA); exact da) | ((with_reducible apply zS); exact ds) | ((with_reducible apply zY); exact rfl; exact rfl; exact tf) | ((with_reducible apply zG); exact rfl; exact rfl; exact tf) | ((with_reducible apply zU); exact rfl; exact rfl) | ((with_reducible apply zD); exact rfl; exact rfl) | ((with_reducible apply zB); exact rfl; exact rfl)))
  clear hgr
  refine awp_loopL (α := Nat) (fun k => [(6, .lsl (nm2 k) 0 (X.take k).flatten.length 1), (25, .d (.slice X.length (X.map isl))), (26, .d (I X.length)), (27, .d (I k))]) (fun k => [(nm2 k, ⟨3, ivs ((X.take k).flatten)⟩)]) (fun k => k ≤ X.length) (fun k => X.length - k) 0 (Nat.zero_le _) (And.intro rfl (And.intro rfl (And.intro rfl (And.intro rfl trivial)))) (And.intro rfl trivial) fun k hk => ?_
  by_cases hlt : k < X.length
  rotate_left
  · obtain rfl : k = X.length := by omega
    rw [hend]
    rcases hx : X.length with _ | n
    · rw [hx] at hlt; exfalso; rw [List.length_eq_zero_iff.1 hx] at hpos; simp at hpos
    · (repeat' (first | (with_reducible first | intro hg | refine mv (by constructor) ?_) | ((with_reducible first | refine zR ?_ ?_ | refine zW mixed ?_ ?_); exact kr) | ((with_reducible apply zK); exact rfl; exact tf) | ((with_reducible apply zCD); exact rfl) | ((with_reducible apply zCN); exact rfl) | ((with_reducible apply zC); exact rfl) | ((with_reducible refine zX ?_ ?_); exact rfl) | ((with_reducible refine zE (And.intro ?_ ?_)); exact kr) | (with_reducible refine zE ?_) | ((with_reducible apply zP); exact dp) | ((with_reducible apply zN); exact dn) | ((with_reducible apply zA); exact da) | ((with_reducible apply zS); exact ds) | ((with_reducible apply zY); exact rfl; exact rfl; exact tf) | ((with_reducible apply zG); exact rfl; exact rfl; exact tf) | ((with_reducible apply zU); exact rfl; exact rfl) | ((with_reducible apply zD); exact rfl; exact rfl) | ((with_reducible apply zB); exact rfl; exact rfl)))
      ((with_reducible first | apply q_retO | apply q_retON); exact rfl; exact rfl; exact rfl)
  have h1 := hget k hlt
  have h2 := hsn k hlt
  have h3 := hfl k
  have h4 := hfl (k + 1)
  rw [h2, List.length_append] at h4
  have hxl : (ivs ((X.take k).flatten)).length = (X.take k).flatten.length * 1 := by rw [ivs_len2, Nat.mul_one]
  rcases k with _ | k
  · rw [hz] at h1 h2 h4
    have e1 : some (Blk.mk 3 (ivs ((X.take 0).flatten) ++ ivs a)) = some ⟨3, ivs ((X.take (0 + 1)).flatten)⟩ := by rw [h2]; simp [ivs]
    have e2 : AV.lsl 33 0 ((X.take 0).flatten.length + a.length) 1 = .lsl 33 0 (X.take (0 + 1)).flatten.length 1 := by rw [h2, List.length_append]
    clear hsn hget hfl hz hend hnil h2
    (repeat' (first | (with_reducible first | intro hg | refine mv (by constructor) ?_) | ((with_reducible first | refine zR ?_ ?_ | refine zW mixed ?_ ?_); exact kr) | ((with_reducible apply zK); exact rfl; exact tf) | ((with_reducible apply zCD); exact rfl) | ((with_reducible apply zCN); exact rfl) | ((with_reducible apply zC); exact rfl) | ((with_reducible refine zX ?_ ?_); exact rfl) | ((with_reducible refine zE (And.intro ?_ ?_)); exact kr) | (with_reducible refine zE ?_) | ((with_reducible apply zP); (first | exact o_indexI (xs := X) (f := isl) rfl rfl hlt rfl | exact o_loadR1 rfl h1 | exact dp)) | ((with_reducible apply zN); exact dn) | ((with_reducible apply zA); (first | ((apply o_app); (case hx => exact rfl); (case hm => exact rfl); (case hy => exact .own rfl rfl); (case hty => exact rfl); (case hl => solve | exact hxl | rfl); (case hcl => solve | rfl | exact hxl | simp); (case hpos => omega); (case hb => omega); (case hb2 => omega); (case hnew => exact rfl)) | ((apply o_app); (case hx => exact rfl); (case hm => exact rfl); (case hy => exact .sl rfl); (case hty => exact rfl); (case hl => solve | exact hxl | rfl); (case hcl => solve | rfl | exact hxl | simp); (case hpos => omega); (case hb => omega); (case hb2 => omega); (case hnew => exact rfl)) | exact da)) | ((with_reducible apply zS); exact ds) | ((with_reducible apply zY); exact rfl; exact rfl; exact tf) | ((with_reducible apply zG); exact rfl; exact rfl; exact tf) | ((with_reducible apply zU); exact rfl; exact rfl) | ((with_reducible apply zD); exact rfl; exact rfl) | ((with_reducible apply zB); exact rfl; exact rfl)))
    exact ⟨0 + 1, hlt, by omega, (And.intro (e2) (And.intro (rfl) (And.intro (rfl) (And.intro (rfl) trivial)))), (And.intro (e1) trivial)⟩
  · obtain ⟨b, hb⟩ : ∃ b, X.getD (k + 1) [] = b := ⟨_, rfl⟩
    rw [hb] at h1 h2 h4
    have e1 : some (Blk.mk 3 (ivs ((X.take (k + 1)).flatten) ++ ivs b)) = some ⟨3, ivs ((X.take (k + 1 + 1)).flatten)⟩ := by rw [h2]; simp [ivs]
    have e2 : AV.lsl 33 0 ((X.take (k + 1)).flatten.length + b.length) 1 = .lsl 33 0 (X.take (k + 1 + 1)).flatten.length 1 := by rw [h2, List.length_append]
    clear hsn hget hfl hz hend hnil
    rcases b with _ | ⟨y, b⟩
    · have e3 : (X.take (k + 1 + 1)).flatten = (X.take (k + 1)).flatten := by rw [h2, List.append_nil]
      clear h2
      (repeat' (first | (with_reducible first | intro hg | refine mv (by constructor) ?_) | ((with_reducible first | refine zR ?_ ?_ | refine zW mixed ?_ ?_); exact kr) | ((with_reducible apply zK); exact rfl; exact tf) | ((with_reducible apply zCD); exact rfl) | ((with_reducible apply zCN); exact rfl) | ((with_reducible apply zC); exact rfl) | ((with_reducible refine zX ?_ ?_); exact rfl) | ((with_reducible refine zE (And.intro ?_ ?_)); exact kr) | (with_reducible refine zE ?_) | ((with_reducible apply zP); (first | exact o_indexI (xs := X) (f := isl) rfl rfl hlt rfl | exact o_loadR1 rfl h1 | exact dp)) | ((with_reducible apply zN); exact dn) | ((with_reducible apply zA); exact da) | ((with_reducible apply zS); exact ds) | ((with_reducible apply zY); exact rfl; exact rfl; exact tf) | ((with_reducible apply zG); exact rfl; exact rfl; exact tf) | ((with_reducible apply zU); exact rfl; exact rfl) | ((with_reducible apply zD); exact rfl; exact rfl) | ((with_reducible apply zB); exact rfl; exact rfl)))
      exact ⟨k + 1 + 1, hlt, by omega, (And.intro (by rw [e3]; rfl) (And.intro (rfl) (And.intro (rfl) (And.intro (rfl) trivial)))), (And.intro (by rw [e3]; rfl) trivial)⟩
    · have hp : 0 < (y :: b).length := Nat.succ_pos _
      generalize y :: b = b at *
      clear h2
      (repeat' (first | (with_reducible first | intro hg | refine mv (by constructor) ?_) | ((with_reducible first | refine zR ?_ ?_ | refine zW mixed ?_ ?_); exact kr) | ((with_reducible apply zK); exact rfl; exact tf) | ((with_reducible apply zCD); exact rfl) | ((with_reducible apply zCN); exact rfl) | ((with_reducible apply zC); exact rfl) | ((with_reducible refine zX ?_ ?_); exact rfl) | ((with_reducible refine zE (And.intro ?_ ?_)); exact kr) | (with_reducible refine zE ?_) | ((with_reducible apply zP); (first | exact o_indexI (xs := X) (f := isl) rfl rfl hlt rfl | exact o_loadR1 rfl h1 | exact dp)) | ((with_reducible apply zN); exact dn) | ((with_reducible apply zA); (first | ((apply o_app); (case hx => exact rfl); (case hm => exact rfl); (case hy => exact .own rfl rfl); (case hty => exact rfl); (case hl => solve | exact hxl | rfl); (case hcl => solve | rfl | exact hxl | simp); (case hpos => omega); (case hb => omega); (case hb2 => omega); (case hnew => exact rfl)) | ((apply o_app); (case hx => exact rfl); (case hm => exact rfl); (case hy => exact .sl rfl); (case hty => exact rfl); (case hl => solve | exact hxl | rfl); (case hcl => solve | rfl | exact hxl | simp); (case hpos => omega); (case hb => omega); (case hb2 => omega); (case hnew => exact rfl)) | exact da)) | ((with_reducible apply zS); exact ds) | ((with_reducible apply zY); exact rfl; exact rfl; exact tf) | ((with_reducible apply zG); exact rfl; exact rfl; exact tf) | ((with_reducible apply zU); exact rfl; exact rfl) | ((with_reducible apply zD); exact rfl; exact rfl) | ((with_reducible apply zB); exact rfl; exact rfl)))
      exact ⟨k + 1 + 1, hlt, by omega, (And.intro (e2) (And.intro (rfl) (And.intro (rfl) (And.intro (rfl) trivial)))), (And.intro (e1) trivial)⟩
theorem joined_own (l : List Int) {n : Nat} (hn : l.length = n) (hl : l.length ≤ 100000) (h : ∀ v ∈ l, I64 v) : AC Tryz.prog 51 [.slice n (((ivs l).drop 0).take (n * 1))] (T8 (fmtL l)) := by
  rw [List.drop_zero, isl_takeL hn]
  exact joined_A l hl h
theorem knumbers_own (l : List Int) {n : Nat} (hn : l.length = n) (hl : l.length ≤ 100000) (h : ∀ v ∈ l, I64 v) : AC Tryz.prog 61 [.slice n (((ivs l).drop 0).take (n * 1))] (T8 (fmtL l)) := by
  rw [List.drop_zero, isl_takeL hn]
  exact knumbers_A l hl h
structure FmtOk (T : List Int) (A : List Act3) : Prop where
  t : T.length ≤ 1000
  a : A.length ≤ 100
  e : ∀ a ∈ A, a.eff.length ≤ 1000
  ti : ∀ v ∈ T, I64 v
  ai : ∀ a ∈ A, ∀ v ∈ actL a, I64 v
theorem fmt_step {A : List Act3} {k : Nat} (h : k < A.length) : A.take (k + 1) = A.take k ++ [A.getD k a0] := by
  rw [List.take_add_one, List.getD_eq_getElem?_getD, List.getElem?_eq_getElem h]; rfl
theorem FmtOk.len {T : List Int} {A : List Act3} (h : FmtOk T A) (k : Nat) : (fmtR T (A.take k)).length ≤ 21000 + 21043 * A.length := by
  have h1 := fmtR_len (m := 1000) (n := 1000) h.t h.ti _ (A.take k) rfl fun a ha => ⟨h.e a (List.mem_of_mem_take ha), h.ai a (List.mem_of_mem_take ha)⟩
  have h2 : (A.take k).length ≤ A.length := by rw [List.length_take]; omega
  have h3 : (21 * 1000 + 43) * (A.take k).length ≤ 21043 * A.length := Nat.mul_le_mul_left _ h2
  omega
theorem formatRules_A (T : List Int) (A : List Act3) (h : FmtOk T A) : AC Tryz.prog 9 [rulV T A] (T8 (fmtR T A)) := by
  have hj := joined_A T (by have := h.t; omega) h.ti
  have ha := h.a
  refine ac_body Tryz.func9 rfl (by kernel_rfl) fun w0 ok => ?_; show AWp _ (ctx0 w0 ok _) _ (ARet _ _ _) (entry _)
  (repeat' (first | (with_reducible first | intro hg | refine mv (by constructor) ?_) | ((with_reducible first | refine zR ?_ ?_ | refine zW mixed ?_ ?_); exact kr) | ((with_reducible apply zK); exact rfl; exact tf) | ((with_reducible apply zCD); exact rfl) | ((with_reducible apply zCN); exact rfl) | ((with_reducible apply zC); exact rfl) | ((with_reducible refine zX ?_ ?_); exact rfl) | ((with_reducible refine zE (And.intro ?_ ?_)); exact kr) | (with_reducible refine zE ?_) | ((with_reducible apply zP); (first | exact dp | exact oc rfl (hj))) | ((with_reducible apply zN); exact dn) | ((with_reducible apply zA); exact da) | ((with_reducible apply zS); exact ds) | ((with_reducible apply zY); exact rfl; exact rfl; exact tf) | ((with_reducible apply zG); exact rfl; exact rfl; exact tf) | ((with_reducible apply zU); exact rfl; exact rfl) | ((with_reducible apply zD); exact rfl; exact rfl) | ((with_reducible apply zB); exact rfl; exact rfl)))
  clear hj
  refine awp_loopL (α := Nat) (fun k => [(3, .d (T8 (fmtR T (A.take k)))), (11, .d (actS A)), (12, .d (I A.length)), (13, .d (I k))]) (fun _ => []) (fun k => k ≤ A.length) (fun k => A.length - k) 0 (Nat.zero_le _) (And.intro (congrArg (fun l => AV.d (T8 l)) (fmtR_none T).symm) (And.intro (rfl) (And.intro (rfl) (And.intro (rfl) trivial)))) trivial fun k hk => ?_
  have hl := h.len k
  by_cases hlt : k < A.length
  rotate_left
  · obtain rfl : k = A.length := by omega
    rw [List.take_length]
    clear hl h
    (repeat' (first | (with_reducible first | intro hg | refine mv (by constructor) ?_) | ((with_reducible first | refine zR ?_ ?_ | refine zW mixed ?_ ?_); exact kr) | ((with_reducible apply zK); exact rfl; exact tf) | ((with_reducible apply zCD); exact rfl) | ((with_reducible apply zCN); exact rfl) | ((with_reducible apply zC); exact rfl) | ((with_reducible refine zX ?_ ?_); exact rfl) | ((with_reducible refine zE (And.intro ?_ ?_)); exact kr) | (with_reducible refine zE ?_) | ((with_reducible apply zP); exact dp) | ((with_reducible apply zN); exact dn) | ((with_reducible apply zA); exact da) | ((with_reducible apply zS); exact ds) | ((with_reducible apply zY); exact rfl; exact rfl; exact tf) | ((with_reducible apply zG); exact rfl; exact rfl; exact tf) | ((with_reducible apply zU); exact rfl; exact rfl) | ((with_reducible apply zD); exact rfl; exact rfl) | ((with_reducible apply zB); exact rfl; exact rfl)))
    ((with_reducible first | apply q_retR | apply q_retN); exact rl)
    rfl
  have hm := act_mem hlt
  have he := h.e _ hm
  have hi := h.ai _ hm
  have hst := fmt_step hlt
  have hff := fmtL_len _ (actL (A.getD k a0)) rfl hi
  have hfl : ([(A.getD k a0).lo, (A.getD k a0).hi] :: [(A.getD k a0).eff]).flatten = actL (A.getD k a0) := by simp
  have hal : (actL (A.getD k a0)).length = (A.getD k a0).eff.length + 2 := rfl
  have hc := concat_O [(A.getD k a0).lo, (A.getD k a0).hi] [(A.getD k a0).eff] (Nat.succ_pos _) (by simp) (by rw [hfl, hal]; omega)
  rw [hfl] at hc
  have hj := joined_own (actL (A.getD k a0)) rfl (by omega) hi
  have hs : fmtR T (A.take (k + 1)) = fmtR T (A.take k) ++ ([59] ++ fmtL (actL (A.getD k a0))) := by rw [hst, fmtR_snoc]
  have hlf : (fmtL (actL (A.getD k a0))).length ≤ 30000 := by omega
  have hl' : (fmtR T (A.take k)).length ≤ 3000000 := by omega
  clear h hm he hi hst hfl hff hl
  generalize fmtL (actL (A.getD k a0)) = f at *
  generalize fmtR T (A.take k) = g at *
  (repeat' (first | (with_reducible first | intro hg | refine mv (by constructor) ?_) | ((with_reducible first | refine zR ?_ ?_ | refine zW mixed ?_ ?_); exact kr) | ((with_reducible apply zK); exact rfl; exact tf) | ((with_reducible apply zCD); exact rfl) | ((with_reducible apply zCN); exact rfl) | ((with_reducible apply zC); exact rfl) | ((with_reducible refine zX ?_ ?_); exact rfl) | ((with_reducible refine zE (And.intro ?_ ?_)); exact kr) | (with_reducible refine zE ?_) | ((with_reducible apply zP); (first | exact o_indexF a0 actC_len (by decide) rfl rfl (by omega) rfl | exact o_buildSlD rfl (by decide) rfl | exact o_addT rfl rfl (by (try simp) <;> omega) (by (try simp) <;> omega) | exact dp | exact oc rfl (hj))) | ((with_reducible apply zN); (first | exact dn | exact o_callO rfl hc (.inl rfl))) | ((with_reducible apply zA); exact da) | ((with_reducible apply zS); exact ds) | ((with_reducible apply zY); exact rfl; exact rfl; exact tf) | ((with_reducible apply zG); exact rfl; exact rfl; exact tf) | ((with_reducible apply zU); exact rfl; exact rfl) | ((with_reducible apply zD); exact rfl; exact rfl) | ((with_reducible apply zB); exact rfl; exact rfl)))
  exact ⟨k + 1, hlt, by omega, (And.intro (congrArg (fun l => AV.d (T8 l)) hs.symm) (And.intro (rfl) (And.intro (rfl) (And.intro (rfl) trivial)))), trivial⟩
theorem refFormatRules_A (T : List Int) (A : List Act3) (h : FmtOk T A) : AC Tryz.prog 17 [rulV T A] (T8 (fmtR T A)) := by
  have hj := knumbers_A T (by have := h.t; omega) h.ti
  have ha := h.a
  refine ac_body Tryz.func17 rfl (by kernel_rfl) fun w0 ok => ?_; show AWp _ (ctx0 w0 ok _) _ (ARet _ _ _) (entry _)
  (repeat' (first | (with_reducible first | intro hg | refine mv (by constructor) ?_) | ((with_reducible first | refine zR ?_ ?_ | refine zW mixed ?_ ?_); exact kr) | ((with_reducible apply zK); exact rfl; exact tf) | ((with_reducible apply zCD); exact rfl) | ((with_reducible apply zCN); exact rfl) | ((with_reducible apply zC); exact rfl) | ((with_reducible refine zX ?_ ?_); exact rfl) | ((with_reducible refine zE (And.intro ?_ ?_)); exact kr) | (with_reducible refine zE ?_) | ((with_reducible apply zP); (first | exact dp | exact oc rfl (hj))) | ((with_reducible apply zN); exact dn) | ((with_reducible apply zA); exact da) | ((with_reducible apply zS); exact ds) | ((with_reducible apply zY); exact rfl; exact rfl; exact tf) | ((with_reducible apply zG); exact rfl; exact rfl; exact tf) | ((with_reducible apply zU); exact rfl; exact rfl) | ((with_reducible apply zD); exact rfl; exact rfl) | ((with_reducible apply zB); exact rfl; exact rfl)))
  clear hj
  refine awp_loopL (α := Nat) (fun k => [(1, .ptr 1 0), (3, .d (T8 (fmtR T (A.take k)))), (4, .d (I k))]) (fun _ => [(1, ⟨25, rulC T A⟩)]) (fun k => k ≤ A.length) (fun k => A.length - k) 0 (Nat.zero_le _) (And.intro rfl (And.intro (congrArg (fun l => AV.d (T8 l)) (fmtR_none T).symm) (And.intro (rfl) trivial))) (And.intro rfl trivial) fun k hk => ?_
  have hl := h.len k
  by_cases hlt : k < A.length
  rotate_left
  · obtain rfl : k = A.length := by omega
    rw [List.take_length]
    clear hl h
    (repeat' (first | (with_reducible first | intro hg | refine mv (by constructor) ?_) | ((with_reducible first | refine zR ?_ ?_ | refine zW mixed ?_ ?_); exact kr) | ((with_reducible apply zK); exact rfl; exact tf) | ((with_reducible apply zCD); exact rfl) | ((with_reducible apply zCN); exact rfl) | ((with_reducible apply zC); exact rfl) | ((with_reducible refine zX ?_ ?_); exact rfl) | ((with_reducible refine zE (And.intro ?_ ?_)); exact kr) | (with_reducible refine zE ?_) | ((with_reducible apply zP); exact dp) | ((with_reducible apply zN); exact dn) | ((with_reducible apply zA); exact da) | ((with_reducible apply zS); exact ds) | ((with_reducible apply zY); exact rfl; exact rfl; exact tf) | ((with_reducible apply zG); exact rfl; exact rfl; exact tf) | ((with_reducible apply zU); exact rfl; exact rfl) | ((with_reducible apply zD); exact rfl; exact rfl) | ((with_reducible apply zB); exact rfl; exact rfl)))
    ((with_reducible first | apply q_retR | apply q_retN); exact rl)
    rfl
  have hm := act_mem hlt
  have he := h.e _ hm
  have hi := h.ai _ hm
  have hst := fmt_step hlt
  have hff := fmtL_len _ (actL (A.getD k a0)) rfl hi
  have hal : (actL (A.getD k a0)).length = (A.getD k a0).eff.length + 2 := rfl
  have hj := knumbers_own (actL (A.getD k a0)) (n := 2 + (A.getD k a0).eff.length) (by rw [hal]; omega) (by omega) hi
  have hs : fmtR T (A.take (k + 1)) = fmtR T (A.take k) ++ [59] ++ fmtL (actL (A.getD k a0)) := by rw [hst, fmtR_snoc, List.append_assoc]
  have hlf : (fmtL (actL (A.getD k a0))).length ≤ 30000 := by omega
  have hl' : (fmtR T (A.take k)).length ≤ 3000000 := by omega
  clear h hm hi hst hff hl hal
  generalize fmtL (actL (A.getD k a0)) = f at *
  generalize fmtR T (A.take k) = g at *
  by_cases h0 : (A.getD k a0).eff = []
  · have hj : AC Tryz.prog 61 [.slice 2 ((([I (A.getD k a0).lo, I (A.getD k a0).hi]).drop 0).take (2 * 1))] (T8 f) := by
      have e : actL (A.getD k a0) = [(A.getD k a0).lo, (A.getD k a0).hi] := by show _ :: _ :: (A.getD k a0).eff = _; rw [h0]
      rw [e, h0] at hj
      exact hj
    have e1 : isl (A.getD k a0).eff = .slice 0 [] := by rw [h0]; rfl
    clear he
    (repeat' (first | (with_reducible first | intro hg | refine mv (by constructor) ?_) | ((with_reducible first | refine zR ?_ ?_ | refine zW mixed ?_ ?_); exact kr) | ((with_reducible apply zK); exact rfl; exact tf) | ((with_reducible apply zCD); exact rfl) | ((with_reducible apply zCN); exact rfl) | ((with_reducible apply zC); exact rfl) | ((with_reducible refine zX ?_ ?_); exact rfl) | ((with_reducible refine zE (And.intro ?_ ?_)); exact kr) | (with_reducible refine zE ?_) | ((with_reducible apply zP); (first | exact o_indexF a0 actC_len (by decide) rfl rfl (by omega) rfl | exact o_app0 rfl (congrArg AV.d e1) | exact o_addT rfl rfl (by (try simp) <;> omega) (by (try simp) <;> omega) | exact dp | exact oc rfl (hj))) | ((with_reducible apply zN); exact dn) | ((with_reducible apply zA); exact da) | ((with_reducible apply zS); exact ds) | ((with_reducible apply zY); exact rfl; exact rfl; exact tf) | ((with_reducible apply zG); exact rfl; exact rfl; exact tf) | ((with_reducible apply zU); exact rfl; exact rfl) | ((with_reducible apply zD); exact rfl; exact rfl) | ((with_reducible apply zB); exact rfl; exact rfl)))
    exact ⟨k + 1, hlt, by omega, (And.intro rfl (And.intro (congrArg (fun l => AV.d (T8 l)) hs.symm) (And.intro (rfl) trivial))), (And.intro rfl trivial)⟩
  · have h0 : 0 < (A.getD k a0).eff.length := List.length_pos_iff.2 h0
    (repeat' (first | (with_reducible first | intro hg | refine mv (by constructor) ?_) | ((with_reducible first | refine zR ?_ ?_ | refine zW mixed ?_ ?_); exact kr) | ((with_reducible apply zK); exact rfl; exact tf) | ((with_reducible apply zCD); exact rfl) | ((with_reducible apply zCN); exact rfl) | ((with_reducible apply zC); exact rfl) | ((with_reducible refine zX ?_ ?_); exact rfl) | ((with_reducible refine zE (And.intro ?_ ?_)); exact kr) | (with_reducible refine zE ?_) | ((with_reducible apply zP); (first | exact o_indexF a0 actC_len (by decide) rfl rfl (by omega) rfl | exact o_addT rfl rfl (by (try simp) <;> omega) (by (try simp) <;> omega) | exact dp | exact oc rfl (hj))) | ((with_reducible apply zN); exact dn) | ((with_reducible apply zA); exact da) | ((with_reducible apply zS); exact ds) | ((with_reducible apply zY); exact rfl; exact rfl; exact tf) | ((with_reducible apply zG); exact rfl; exact rfl; exact tf) | ((with_reducible apply zU); exact rfl; exact rfl) | ((with_reducible apply zD); exact rfl; exact rfl) | ((with_reducible apply zB); exact rfl; exact rfl)))
    exact ⟨k + 1, hlt, by omega, (And.intro rfl (And.intro (congrArg (fun l => AV.d (T8 l)) hs.symm) (And.intro (rfl) trivial))), (And.intro rfl trivial)⟩
theorem formatProfile_A (p : List Int) (hl : p.length ≤ 100000) (h : ∀ v ∈ p, I64 v) : AC Tryz.prog 11 [isl p] (T8 (fmtL p)) := by
  have hj := joined_A p hl h
  refine ac_body Tryz.func11 rfl (by kernel_rfl) fun w0 ok => ?_; show AWp _ (ctx0 w0 ok _) _ (ARet _ _ _) (entry _)
  (repeat' (first | (with_reducible first | intro hg | refine mv (by constructor) ?_) | ((with_reducible first | refine zR ?_ ?_ | refine zW mixed ?_ ?_); exact kr) | ((with_reducible apply zK); exact rfl; exact tf) | ((with_reducible apply zCD); exact rfl) | ((with_reducible apply zCN); exact rfl) | ((with_reducible apply zC); exact rfl) | ((with_reducible refine zX ?_ ?_); exact rfl) | ((with_reducible refine zE (And.intro ?_ ?_)); exact kr) | (with_reducible refine zE ?_) | ((with_reducible apply zP); (first | exact dp | exact oc rfl (hj))) | ((with_reducible apply zN); exact dn) | ((with_reducible apply zA); exact da) | ((with_reducible apply zS); exact ds) | ((with_reducible apply zY); exact rfl; exact rfl; exact tf) | ((with_reducible apply zG); exact rfl; exact rfl; exact tf) | ((with_reducible apply zU); exact rfl; exact rfl) | ((with_reducible apply zD); exact rfl; exact rfl) | ((with_reducible apply zB); exact rfl; exact rfl)))
  ((with_reducible first | apply q_retR | apply q_retN); exact rl)
  rfl
theorem refFormatProfile_A (p : List Int) (hl : p.length ≤ 100000) (h : ∀ v ∈ p, I64 v) : AC Tryz.prog 18 [isl p] (T8 (fmtL p)) := by
  have hj := knumbers_A p hl h
  refine ac_body Tryz.func18 rfl (by kernel_rfl) fun w0 ok => ?_; show AWp _ (ctx0 w0 ok _) _ (ARet _ _ _) (entry _)
  (repeat' (first | (with_reducible first | intro hg | refine mv (by constructor) ?_) | ((with_reducible first | refine zR ?_ ?_ | refine zW mixed ?_ ?_); exact kr) | ((with_reducible apply zK); exact rfl; exact tf) | ((with_reducible apply zCD); exact rfl) | ((with_reducible apply zCN); exact rfl) | ((with_reducible apply zC); exact rfl) | ((with_reducible refine zX ?_ ?_); exact rfl) | ((with_reducible refine zE (And.intro ?_ ?_)); exact kr) | (with_reducible refine zE ?_) | ((with_reducible apply zP); (first | exact dp | exact oc rfl (hj))) | ((with_reducible apply zN); exact dn) | ((with_reducible apply zA); exact da) | ((with_reducible apply zS); exact ds) | ((with_reducible apply zY); exact rfl; exact rfl; exact tf) | ((with_reducible apply zG); exact rfl; exact rfl; exact tf) | ((with_reducible apply zU); exact rfl; exact rfl) | ((with_reducible apply zD); exact rfl; exact rfl) | ((with_reducible apply zB); exact rfl; exact rfl)))
  ((with_reducible first | apply q_retR | apply q_retN); exact rl)
  rfl

end Go.Proofs.YtagpmpbmfjaiiaaGreatDoor
