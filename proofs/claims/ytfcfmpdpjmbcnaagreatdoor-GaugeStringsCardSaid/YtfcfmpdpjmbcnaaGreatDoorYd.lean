/- The loop of a string, by the reference; whether loops are the same. -/
import Derived.Test.YtfcfmpdpjmbcnaaGreatDoorYc
set_option linter.unusedVariables false
set_option linter.unusedSimpArgs false
namespace Go.Proofs.YtfcfmpdpjmbcnaaGreatDoor
open Go.RowKit
set_option maxRecDepth 20000
set_option maxHeartbeats 8000000

theorem numS_true (w : List UInt8) : numS true 2 w = numN w 2 := rfl
theorem numS_false (w : List UInt8) : numS false 2 w = match numN w 2 with
    | none => none
    | some v => if v < 0 then none else some v := by
  unfold numS
  cases h : numN w 2 with
  | none => simp
  | some v =>
    obtain ⟨_, h2, _⟩ := numN_itoa (by decide) h
    have hs := sign_itoa v
    rw [h2] at hs
    by_cases hv : v < 0
    · rw [decide_eq_true (hs.2 hv)]
      simp [hv]
    · rw [decide_eq_false (fun e => hv (hs.1 e))]
      simp [hv]
theorem two_of {ps : List (List UInt8)} (h : ps.length = 2) : ∃ a b, ps = [a, b] := by
  match ps, h with
  | [a, b], _ => exact ⟨a, b, rfl⟩
theorem loopP_len {ps : List (List UInt8)} (h : ps.length ≠ 2) : loopP ps = none := by
  unfold loopP
  split
  · exact absurd rfl h
  · rfl
theorem pairP_len {ps : List (List UInt8)} (h : ps.length ≠ 2) : pairP ps = none := by
  unfold pairP
  split
  · exact absurd rfl h
  · rfl
theorem rlP_bad {d r : List UInt8} {k : Nat} (hk : k < (cutA 44 [] r).length) (h : pairS ((cutA 44 [] r).getD k []) = none) : loopP [d, r] = none := by
  have hm : (cutA 44 [] r).getD k [] ∈ cutA 44 [] r := by
    rw [List.getD_eq_getElem?_getD, List.getElem?_eq_getElem hk]; exact List.getElem_mem hk
  rw [loopP_two, pairsS_none _ _ hm h]
  cases numS false 2 d <;> rfl
theorem refParseLoop_A (s : List UInt8) (hs : s.length ≤ 60000) (res : DV) (h0 : loopP (cutA 59 [] s) = none → res = .tuple [zLo, I 7])
    (h1 : ∀ x l, loopP (cutA 59 [] s) = some (x, l) → loE l x = 0 → res = .tuple [loV l x, I 0]) (h2 : ∀ x l, loopP (cutA 59 [] s) = some (x, l) → loE l x ≠ 0 → res = .tuple [zLo, I (loE l x)]) :
    AC Tryz.prog 10 [T8 s] res := by
  have hct : AC Tryz.prog 49 [T8 s, .val (.int .u8 59)] (tsl (cutA 59 [] s)) := cut_A s 59 (by omega)
  have hmem := cutA_mem 59 s []
  have hlen := cutA_len 59 s []
  generalize cutA 59 [] s = ps at *
  by_cases hl : ps.length = 2
  rotate_left
  · obtain rfl := h0 (loopP_len hl)
    have hl' : ¬ (ps.length : Int) = 2 := by omega
    clear h0 h1 h2
    refine ac_body Tryz.func10 rfl (by kernel_rfl) fun w0 ok => ?_; show AWp _ (ctx0 w0 ok _) _ (ARet _ _ _) (entry _)
    (repeat' (first | (with_reducible first | intro hg | refine mv (by constructor) ?_) | ((with_reducible first | refine zR ?_ ?_ | refine zW mixed ?_ ?_); exact kr) | ((with_reducible apply zK); exact rfl; exact tf) | ((with_reducible apply zCD); exact rfl) | ((with_reducible apply zCN); exact rfl) | ((with_reducible apply zC); exact rfl) | ((with_reducible refine zX ?_ ?_); exact rfl) | ((with_reducible refine zE (And.intro ?_ ?_)); exact kr) | (with_reducible refine zE ?_) | ((with_reducible apply zP); (first | exact dp | exact oc rfl (hct))) | ((with_reducible apply zN); exact dn) | ((with_reducible apply zA); exact da) | ((with_reducible apply zS); exact ds) | ((with_reducible apply zY); exact rfl; exact rfl; exact tf) | ((with_reducible apply zG); exact rfl; exact rfl; exact tf) | ((with_reducible apply zU); exact rfl; exact rfl) | ((with_reducible apply zD); exact rfl; exact rfl) | ((with_reducible apply zB); exact rfl; exact rfl)))
    ((with_reducible first | apply q_retR | apply q_retN); exact rl)
    rfl
  obtain ⟨d, r, rfl⟩ := two_of hl
  simp only [List.length_nil, Nat.zero_add] at hmem
  have hdl := hmem d (by simp)
  have hrl := hmem r (by simp)
  have hnd := number_A d 2 (by decide) (by omega)
  have g0 : ((([d, r] : List (List UInt8)).map T8).drop 0)[0]? = some (T8 d) := rfl
  have g1 : ((([d, r] : List (List UInt8)).map T8).drop 1)[0]? = some (T8 r) := rfl
  have hfs := numS_false d
  clear hmem hlen hl
  cases hN : numN d 2 with
  | none =>
    rw [hN] at hnd hfs
    have hnd : AC Tryz.prog 50 [T8 d, I 2] (.tuple [I 0, B false]) := hnd
    have hfs : numS false 2 d = none := hfs
    obtain rfl := h0 (by rw [loopP_two, hfs])
    clear h0 h1 h2
    refine ac_body Tryz.func10 rfl (by kernel_rfl) fun w0 ok => ?_; show AWp _ (ctx0 w0 ok _) _ (ARet _ _ _) (entry _)
    (repeat' (first | (with_reducible first | intro hg | refine mv (by constructor) ?_) | ((with_reducible first | refine zR ?_ ?_ | refine zW mixed ?_ ?_); exact kr) | ((with_reducible apply zK); exact rfl; exact tf) | ((with_reducible apply zCD); exact rfl) | ((with_reducible apply zCN); exact rfl) | ((with_reducible apply zC); exact rfl) | ((with_reducible refine zX ?_ ?_); exact rfl) | ((with_reducible refine zE (And.intro ?_ ?_)); exact kr) | (with_reducible refine zE ?_) | ((with_reducible apply zP); (first | exact o_indexI (j := 0) (xs := [d, r]) (f := T8) rfl rfl (by show 0 < 2; decide) rfl | exact o_loadR1 rfl g0 | exact dp | exact oc rfl (hct) | exact oc rfl (hnd))) | ((with_reducible apply zN); exact dn) | ((with_reducible apply zA); exact da) | ((with_reducible apply zS); exact ds) | ((with_reducible apply zY); exact rfl; exact rfl; exact tf) | ((with_reducible apply zG); exact rfl; exact rfl; exact tf) | ((with_reducible apply zU); exact rfl; exact rfl) | ((with_reducible apply zD); exact rfl; exact rfl) | ((with_reducible apply zB); exact rfl; exact rfl)))
    ((with_reducible first | apply q_retR | apply q_retN); exact rl)
    rfl
  | some x =>
  rw [hN] at hnd hfs
  have hnd : AC Tryz.prog 50 [T8 d, I 2] (.tuple [I x, B true]) := hnd
  have hfs : numS false 2 d = if x < 0 then none else some x := hfs
  by_cases hx : x < 0
  · rw [if_pos hx] at hfs
    obtain rfl := h0 (by rw [loopP_two, hfs])
    clear h0 h1 h2
    refine ac_body Tryz.func10 rfl (by kernel_rfl) fun w0 ok => ?_; show AWp _ (ctx0 w0 ok _) _ (ARet _ _ _) (entry _)
    (repeat' (first | (with_reducible first | intro hg | refine mv (by constructor) ?_) | ((with_reducible first | refine zR ?_ ?_ | refine zW mixed ?_ ?_); exact kr) | ((with_reducible apply zK); exact rfl; exact tf) | ((with_reducible apply zCD); exact rfl) | ((with_reducible apply zCN); exact rfl) | ((with_reducible apply zC); exact rfl) | ((with_reducible refine zX ?_ ?_); exact rfl) | ((with_reducible refine zE (And.intro ?_ ?_)); exact kr) | (with_reducible refine zE ?_) | ((with_reducible apply zP); (first | exact o_indexI (j := 0) (xs := [d, r]) (f := T8) rfl rfl (by show 0 < 2; decide) rfl | exact o_loadR1 rfl g0 | exact dp | exact oc rfl (hct) | exact oc rfl (hnd))) | ((with_reducible apply zN); exact dn) | ((with_reducible apply zA); exact da) | ((with_reducible apply zS); exact ds) | ((with_reducible apply zY); exact rfl; exact rfl; exact tf) | ((with_reducible apply zG); exact rfl; exact rfl; exact tf) | ((with_reducible apply zU); exact rfl; exact rfl) | ((with_reducible apply zD); exact rfl; exact rfl) | ((with_reducible apply zB); exact rfl; exact rfl)))
    ((with_reducible first | apply q_retR | apply q_retN); exact rl)
    rfl
  rw [if_neg hx] at hfs
  have hcr : AC Tryz.prog 49 [T8 r, .val (.int .u8 44)] (tsl (cutA 44 [] r)) := cut_A r 44 (by omega)
  have hmem := cutA_mem 44 r []
  have hlen := cutA_len 44 r []
  have hpos := cutA_pos 44 r []
  have hbad := fun k hk h => h0 (@rlP_bad d r k hk h)
  have hgood : ∀ l, pairsS (cutA 44 [] r) = some l → loopP [d, r] = some (x, l) := fun l hl => by rw [loopP_two, hfs, hl]
  simp only [List.length_nil, Nat.zero_add] at hmem
  clear h0 hfs hN
  generalize cutA 44 [] r = ws at *
  refine ac_body Tryz.func10 rfl (by kernel_rfl) fun w0 ok => ?_; show AWp _ (ctx0 w0 ok _) _ (ARet _ _ _) (entry _)
  (repeat' (first | (with_reducible first | intro hg | refine mv (by constructor) ?_) | ((with_reducible first | refine zR ?_ ?_ | refine zW mixed ?_ ?_); exact kr) | ((with_reducible apply zK); exact rfl; exact tf) | ((with_reducible apply zCD); exact rfl) | ((with_reducible apply zCN); exact rfl) | ((with_reducible apply zC); exact rfl) | ((with_reducible refine zX ?_ ?_); exact rfl) | ((with_reducible refine zE (And.intro ?_ ?_)); exact kr) | (with_reducible refine zE ?_) | ((with_reducible apply zP); (first | exact o_indexI (j := 0) (xs := [d, r]) (f := T8) rfl rfl (by show 0 < 2; decide) rfl | exact o_indexI (j := 1) (xs := [d, r]) (f := T8) rfl rfl (by show 1 < 2; decide) rfl | exact o_loadR1 rfl g0 | exact o_loadR1 rfl g1 | exact dp | exact oc rfl (hct) | exact oc rfl (hnd) | exact oc rfl (hcr))) | ((with_reducible apply zN); exact dn) | ((with_reducible apply zA); exact da) | ((with_reducible apply zS); exact ds) | ((with_reducible apply zY); exact rfl; exact rfl; exact tf) | ((with_reducible apply zG); exact rfl; exact rfl; exact tf) | ((with_reducible apply zU); exact rfl; exact rfl) | ((with_reducible apply zD); exact rfl; exact rfl) | ((with_reducible apply zB); exact rfl; exact rfl)))
  clear hct hnd hcr g0 g1
  refine awp_loopL (α := Nat × List Rg × Nat × Nat) (fun y => (2, .ptr 2 0) :: (4, .ptr 4 0) :: (8, .ptr 8 0) :: (9, .d (tsl ws)) :: (10, .d (I y.1)) :: lkF PN y.2.2.1 y.2.2.2 2 y.2.1.length)
    (fun y => (2, ⟨24, [nilV, I 0]⟩) :: (4, ⟨24, [nilV, I 0]⟩) :: (8, ⟨24, [lkC y.2.2.1 y.2.2.2 y.2.1.length, I x]⟩) :: lkM PN 64 (rgS y.2.1) y.2.1.length)
    (fun y => y.1 ≤ ws.length ∧ pairsS (ws.take y.1) = some y.2.1 ∧ LkJ y.2.2.1 y.2.2.2 y.2.1.length) (fun y => ws.length - y.1) (0, [], 0, 0) ⟨Nat.zero_le _, rfl, .inl rfl⟩ (And.intro rfl (And.intro rfl (And.intro rfl (And.intro rfl (And.intro rfl trivial))))) (And.intro rfl (And.intro rfl (And.intro rfl trivial))) fun ⟨k, G, b, cap⟩ ⟨hk, hA, hb⟩ => ?_
  have hk : k ≤ ws.length := hk
  have hA : pairsS (ws.take k) = some G := hA
  have hb : LkJ b cap G.length := hb
  have hGl := (pairsS_mem _ _ hA).1
  rw [List.length_take, Nat.min_eq_left hk] at hGl
  by_cases hlt : k < ws.length
  rotate_left
  · have hke : k = ws.length := by omega
    rw [hke, List.take_length] at hA
    have hg := hgood G hA
    have h1 := h1 x G hg
    have h2 := h2 x G hg
    have hre := qloopErr_A G x (by omega)
    clear hbad hgood hmem hA hg
    rcases G with _ | ⟨u, G⟩
    · simp only [List.length_nil] at hGl; omega
    · obtain ⟨hb1, hb2⟩ := hb.resolve_left (by simp)
      refine awp_turn (turns_unlink 8 0 PN (by rfl) (by rfl) (by rfl) (by rfl) (by rfl) (by decide) hb1 hb2) fun _ => ?_
      have hw := rgS_take (G := u :: G) (n := G.length + 1) rfl
      have hre' : AC Tryz.prog 13 [.agg [.slice (G.length + 1) ((rgS (u :: G)).take ((G.length + 1) * 2)), I x]] (I (loE (u :: G) x)) := by rw [hw]; exact hre
      clear hre
      by_cases he : loE (u :: G) x = 0
      · obtain rfl := h1 he
        rw [he] at hre'
        clear h1 h2
        (repeat' (first | (with_reducible first | intro hg | refine mv (by constructor) ?_) | ((with_reducible first | refine zR ?_ ?_ | refine zW mixed ?_ ?_); exact kr) | ((with_reducible apply zK); exact rfl; exact tf) | ((with_reducible apply zCD); exact rfl) | ((with_reducible apply zCN); exact rfl) | ((with_reducible apply zC); exact rfl) | ((with_reducible refine zX ?_ ?_); exact rfl) | ((with_reducible refine zE (And.intro ?_ ?_)); exact kr) | (with_reducible refine zE ?_) | ((with_reducible apply zP); (first | exact dp | exact oc rfl (hre'))) | ((with_reducible apply zN); exact dn) | ((with_reducible apply zA); exact da) | ((with_reducible apply zS); exact ds) | ((with_reducible apply zY); exact rfl; exact rfl; exact tf) | ((with_reducible apply zG); exact rfl; exact rfl; exact tf) | ((with_reducible apply zU); exact rfl; exact rfl) | ((with_reducible apply zD); exact rfl; exact rfl) | ((with_reducible apply zB); exact rfl; exact rfl)))
        ((with_reducible first | apply q_retR | apply q_retN); exact rl)
        show DV.tuple [loV (u :: G) x, I 0] = DV.tuple [.agg [.slice (G.length + 1) ((rgS (u :: G)).take ((G.length + 1) * 2)), I x], I 0]
        rw [hw]
        rfl
      · obtain rfl := h2 he
        clear h1 h2
        (repeat' (first | (with_reducible first | intro hg | refine mv (by constructor) ?_) | ((with_reducible first | refine zR ?_ ?_ | refine zW mixed ?_ ?_); exact kr) | ((with_reducible apply zK); exact rfl; exact tf) | ((with_reducible apply zCD); exact rfl) | ((with_reducible apply zCN); exact rfl) | ((with_reducible apply zC); exact rfl) | ((with_reducible refine zX ?_ ?_); exact rfl) | ((with_reducible refine zE (And.intro ?_ ?_)); exact kr) | (with_reducible refine zE ?_) | ((with_reducible apply zP); (first | exact dp | exact oc rfl (hre'))) | ((with_reducible apply zN); exact dn) | ((with_reducible apply zA); exact da) | ((with_reducible apply zS); exact ds) | ((with_reducible apply zY); exact rfl; exact rfl; exact tf) | ((with_reducible apply zG); exact rfl; exact rfl; exact tf) | ((with_reducible apply zU); exact rfl; exact rfl) | ((with_reducible apply zD); exact rfl; exact rfl) | ((with_reducible apply zB); exact rfl; exact rfl)))
        ((with_reducible first | apply q_retR | apply q_retN); exact rl)
        rfl
  have hpl : (ws.getD k []).length ≤ r.length := hmem _ (by rw [List.getD_eq_getElem?_getD, List.getElem?_eq_getElem hlt]; exact List.getElem_mem hlt)
  have hget : ((ws.map T8).drop k)[0]? = some (T8 (ws.getD k [])) := get_map [] hlt
  have htk : ws.take (k + 1) = ws.take k ++ [ws.getD k []] := by
    rw [List.take_add_one, List.getD_eq_getElem?_getD, List.getElem?_eq_getElem hlt]; rfl
  have hsn := pairsS_snoc (ws.getD k []) _ G hA
  rw [← htk] at hsn
  have hbad := hbad k hlt
  have hcw : AC Tryz.prog 49 [T8 (ws.getD k []), .val (.int .u8 32)] (tsl (cutA 32 [] (ws.getD k []))) := cut_A _ 32 (by omega)
  have hmw := cutA_mem 32 (ws.getD k []) []
  have hps : pairS (ws.getD k []) = pairP (cutA 32 [] (ws.getD k [])) := rfl
  rw [hps] at hsn hbad
  clear hmem h1 h2 hgood hA htk hps
  generalize cutA 32 [] (ws.getD k []) = qs at *
  by_cases hq : qs.length = 2
  rotate_left
  · obtain rfl := hbad (pairP_len hq)
    have hq' : ¬ (qs.length : Int) = 2 := by omega
    (repeat' (first | (with_reducible first | intro hg | refine mv (by constructor) ?_) | ((with_reducible first | refine zR ?_ ?_ | refine zW mixed ?_ ?_); exact kr) | ((with_reducible apply zK); exact rfl; exact tf) | ((with_reducible apply zCD); exact rfl) | ((with_reducible apply zCN); exact rfl) | ((with_reducible apply zC); exact rfl) | ((with_reducible refine zX ?_ ?_); exact rfl) | ((with_reducible refine zE (And.intro ?_ ?_)); exact kr) | (with_reducible refine zE ?_) | ((with_reducible apply zP); (first | exact o_indexI (j := k) (xs := ws) (f := T8) rfl rfl hlt rfl | exact o_loadR1 rfl hget | exact dp | exact oc rfl (hcw))) | ((with_reducible apply zN); exact dn) | ((with_reducible apply zA); exact da) | ((with_reducible apply zS); exact ds) | ((with_reducible apply zY); exact rfl; exact rfl; exact tf) | ((with_reducible apply zG); exact rfl; exact rfl; exact tf) | ((with_reducible apply zU); exact rfl; exact rfl) | ((with_reducible apply zD); exact rfl; exact rfl) | ((with_reducible apply zB); exact rfl; exact rfl)))
    ((with_reducible first | apply q_retR | apply q_retN); exact rl)
    rfl
  obtain ⟨a, c, rfl⟩ := two_of hq
  simp only [List.length_nil, Nat.zero_add] at hmw
  have hna := number_A a 2 (by decide) (by have := hmw a (by simp); omega)
  have hnc := number_A c 2 (by decide) (by have := hmw c (by simp); omega)
  have g0 : ((([a, c] : List (List UInt8)).map T8).drop 0)[0]? = some (T8 a) := rfl
  have g1 : ((([a, c] : List (List UInt8)).map T8).drop 1)[0]? = some (T8 c) := rfl
  rw [pairP_two, numS_true, numS_true] at hsn hbad
  clear hmw hq
  cases hNa : numN a 2 with
  | none =>
    rw [hNa] at hna hbad
    have hna : AC Tryz.prog 50 [T8 a, I 2] (.tuple [I 0, B false]) := hna
    obtain rfl := hbad rfl
    cases hNc : numN c 2 with
    | none =>
      rw [hNc] at hnc
      have hnc : AC Tryz.prog 50 [T8 c, I 2] (.tuple [I 0, B false]) := hnc
      clear hsn
      (repeat' (first | (with_reducible first | intro hg | refine mv (by constructor) ?_) | ((with_reducible first | refine zR ?_ ?_ | refine zW mixed ?_ ?_); exact kr) | ((with_reducible apply zK); exact rfl; exact tf) | ((with_reducible apply zCD); exact rfl) | ((with_reducible apply zCN); exact rfl) | ((with_reducible apply zC); exact rfl) | ((with_reducible refine zX ?_ ?_); exact rfl) | ((with_reducible refine zE (And.intro ?_ ?_)); exact kr) | (with_reducible refine zE ?_) | ((with_reducible apply zP); (first | exact o_indexI (j := k) (xs := ws) (f := T8) rfl rfl hlt rfl | exact o_loadR1 rfl hget | exact o_indexI (j := 0) (xs := [a, c]) (f := T8) rfl rfl (by show 0 < 2; decide) rfl | exact o_indexI (j := 1) (xs := [a, c]) (f := T8) rfl rfl (by show 1 < 2; decide) rfl | exact o_loadR1 rfl g0 | exact o_loadR1 rfl g1 | exact dp | exact oc rfl (hcw) | exact oc rfl (hna) | exact oc rfl (hnc))) | ((with_reducible apply zN); exact dn) | ((with_reducible apply zA); exact da) | ((with_reducible apply zS); exact ds) | ((with_reducible apply zY); exact rfl; exact rfl; exact tf) | ((with_reducible apply zG); exact rfl; exact rfl; exact tf) | ((with_reducible apply zU); exact rfl; exact rfl) | ((with_reducible apply zD); exact rfl; exact rfl) | ((with_reducible apply zB); exact rfl; exact rfl)))
      ((with_reducible first | apply q_retR | apply q_retN); exact rl)
      rfl
    | some y =>
      rw [hNc] at hnc
      have hnc : AC Tryz.prog 50 [T8 c, I 2] (.tuple [I y, B true]) := hnc
      clear hsn
      (repeat' (first | (with_reducible first | intro hg | refine mv (by constructor) ?_) | ((with_reducible first | refine zR ?_ ?_ | refine zW mixed ?_ ?_); exact kr) | ((with_reducible apply zK); exact rfl; exact tf) | ((with_reducible apply zCD); exact rfl) | ((with_reducible apply zCN); exact rfl) | ((with_reducible apply zC); exact rfl) | ((with_reducible refine zX ?_ ?_); exact rfl) | ((with_reducible refine zE (And.intro ?_ ?_)); exact kr) | (with_reducible refine zE ?_) | ((with_reducible apply zP); (first | exact o_indexI (j := k) (xs := ws) (f := T8) rfl rfl hlt rfl | exact o_loadR1 rfl hget | exact o_indexI (j := 0) (xs := [a, c]) (f := T8) rfl rfl (by show 0 < 2; decide) rfl | exact o_indexI (j := 1) (xs := [a, c]) (f := T8) rfl rfl (by show 1 < 2; decide) rfl | exact o_loadR1 rfl g0 | exact o_loadR1 rfl g1 | exact dp | exact oc rfl (hcw) | exact oc rfl (hna) | exact oc rfl (hnc))) | ((with_reducible apply zN); exact dn) | ((with_reducible apply zA); exact da) | ((with_reducible apply zS); exact ds) | ((with_reducible apply zY); exact rfl; exact rfl; exact tf) | ((with_reducible apply zG); exact rfl; exact rfl; exact tf) | ((with_reducible apply zU); exact rfl; exact rfl) | ((with_reducible apply zD); exact rfl; exact rfl) | ((with_reducible apply zB); exact rfl; exact rfl)))
      ((with_reducible first | apply q_retR | apply q_retN); exact rl)
      rfl
  | some v =>
  rw [hNa] at hna hbad hsn
  have hna : AC Tryz.prog 50 [T8 a, I 2] (.tuple [I v, B true]) := hna
  cases hNc : numN c 2 with
  | none =>
    rw [hNc] at hnc hbad
    have hnc : AC Tryz.prog 50 [T8 c, I 2] (.tuple [I 0, B false]) := hnc
    obtain rfl := hbad rfl
    clear hsn
    (repeat' (first | (with_reducible first | intro hg | refine mv (by constructor) ?_) | ((with_reducible first | refine zR ?_ ?_ | refine zW mixed ?_ ?_); exact kr) | ((with_reducible apply zK); exact rfl; exact tf) | ((with_reducible apply zCD); exact rfl) | ((with_reducible apply zCN); exact rfl) | ((with_reducible apply zC); exact rfl) | ((with_reducible refine zX ?_ ?_); exact rfl) | ((with_reducible refine zE (And.intro ?_ ?_)); exact kr) | (with_reducible refine zE ?_) | ((with_reducible apply zP); (first | exact o_indexI (j := k) (xs := ws) (f := T8) rfl rfl hlt rfl | exact o_loadR1 rfl hget | exact o_indexI (j := 0) (xs := [a, c]) (f := T8) rfl rfl (by show 0 < 2; decide) rfl | exact o_indexI (j := 1) (xs := [a, c]) (f := T8) rfl rfl (by show 1 < 2; decide) rfl | exact o_loadR1 rfl g0 | exact o_loadR1 rfl g1 | exact dp | exact oc rfl (hcw) | exact oc rfl (hna) | exact oc rfl (hnc))) | ((with_reducible apply zN); exact dn) | ((with_reducible apply zA); exact da) | ((with_reducible apply zS); exact ds) | ((with_reducible apply zY); exact rfl; exact rfl; exact tf) | ((with_reducible apply zG); exact rfl; exact rfl; exact tf) | ((with_reducible apply zU); exact rfl; exact rfl) | ((with_reducible apply zD); exact rfl; exact rfl) | ((with_reducible apply zB); exact rfl; exact rfl)))
    ((with_reducible first | apply q_retR | apply q_retN); exact rl)
    rfl
  | some y =>
  rw [hNc] at hnc hsn
  have hnc : AC Tryz.prog 50 [T8 c, I 2] (.tuple [I y, B true]) := hnc
  have hsn : pairsS (ws.take (k + 1)) = some (G ++ [(v, y)]) := hsn
  have hm : ws.length - (k + 1) < ws.length - k := by omega
  clear hbad hNa hNc
  rcases G with _ | ⟨u, G⟩
  · (repeat' ((fail_if_success (with_reducible show AWp _ _ (.region 20 _ _) _ _)); (first | (with_reducible first | intro hg | refine mv (by constructor) ?_) | ((with_reducible first | refine zR ?_ ?_ | refine zW mixed ?_ ?_); exact kr) | ((with_reducible apply zK); exact rfl; exact tf) | ((with_reducible apply zCD); exact rfl) | ((with_reducible apply zCN); exact rfl) | ((with_reducible apply zC); exact rfl) | ((with_reducible refine zX ?_ ?_); exact rfl) | ((with_reducible refine zE (And.intro ?_ ?_)); exact kr) | (with_reducible refine zE ?_) | ((with_reducible apply zP); (first | exact o_indexI (j := k) (xs := ws) (f := T8) rfl rfl hlt rfl | exact o_loadR1 rfl hget | exact o_indexI (j := 0) (xs := [a, c]) (f := T8) rfl rfl (by show 0 < 2; decide) rfl | exact o_indexI (j := 1) (xs := [a, c]) (f := T8) rfl rfl (by show 1 < 2; decide) rfl | exact o_loadR1 rfl g0 | exact o_loadR1 rfl g1 | exact dp | exact oc rfl (hcw) | exact oc rfl (hna) | exact oc rfl (hnc))) | ((with_reducible apply zN); exact dn) | ((with_reducible apply zA); exact da) | ((with_reducible apply zS); exact ds) | ((with_reducible apply zY); exact rfl; exact rfl; exact tf) | ((with_reducible apply zG); exact rfl; exact rfl; exact tf) | ((with_reducible apply zU); exact rfl; exact rfl) | ((with_reducible apply zD); exact rfl; exact rfl) | ((with_reducible apply zB); exact rfl; exact rfl))))
    refine awp_regionL ?_
    ((refine wpl_run (l1 := [_, _, _, _, _, _, _]) rfl ?_ ?_); exact kr; (repeat' (first | (with_reducible first | intro hg | refine mv (by constructor) ?_) | ((with_reducible first | refine zR ?_ ?_ | refine zW mixed ?_ ?_); exact kr) | ((with_reducible apply zK); exact rfl; exact tf) | ((with_reducible apply zCD); exact rfl) | ((with_reducible apply zCN); exact rfl) | ((with_reducible apply zC); exact rfl) | ((with_reducible refine zX ?_ ?_); exact rfl) | ((with_reducible refine zE (And.intro ?_ ?_)); exact kr) | (with_reducible refine zE ?_) | ((with_reducible apply zP); exact dp) | ((with_reducible apply zN); exact dn) | ((with_reducible apply zA); exact da) | ((with_reducible apply zS); exact ds) | ((with_reducible apply zY); exact rfl; exact rfl; exact tf) | ((with_reducible apply zG); exact rfl; exact rfl; exact tf) | ((with_reducible apply zU); exact rfl; exact rfl) | ((with_reducible apply zD); exact rfl; exact rfl) | ((with_reducible apply zB); exact rfl; exact rfl))))
    refine wpl_turn (turns_pin 86 86 PN (by rfl) (by rfl) (by rfl) (by rfl) (by kernel_rfl)) fun z => ?_
    ((refine wpl_run (l1 := [_, _]) rfl ?_ ?_); exact kr; (repeat' (first | (with_reducible first | intro hg | refine mv (by constructor) ?_) | ((with_reducible first | refine zR ?_ ?_ | refine zW mixed ?_ ?_); exact kr) | ((with_reducible apply zK); exact rfl; exact tf) | ((with_reducible apply zCD); exact rfl) | ((with_reducible apply zCN); exact rfl) | ((with_reducible apply zC); exact rfl) | ((with_reducible refine zX ?_ ?_); exact rfl) | ((with_reducible refine zE (And.intro ?_ ?_)); exact kr) | (with_reducible refine zE ?_) | ((with_reducible apply zP); exact dp) | ((with_reducible apply zN); exact dn) | ((with_reducible apply zA); exact da) | ((with_reducible apply zS); exact ds) | ((with_reducible apply zY); exact rfl; exact rfl; exact tf) | ((with_reducible apply zG); exact rfl; exact rfl; exact tf) | ((with_reducible apply zU); exact rfl; exact rfl) | ((with_reducible apply zD); exact rfl; exact rfl) | ((with_reducible apply zB); exact rfl; exact rfl))))
    refine wpl_nil ?_
    (repeat' (first | (with_reducible first | intro hg | refine mv (by constructor) ?_) | ((with_reducible first | refine zR ?_ ?_ | refine zW mixed ?_ ?_); exact kr) | ((with_reducible apply zK); exact rfl; exact tf) | ((with_reducible apply zCD); exact rfl) | ((with_reducible apply zCN); exact rfl) | ((with_reducible apply zC); exact rfl) | ((with_reducible refine zX ?_ ?_); exact rfl) | ((with_reducible refine zE (And.intro ?_ ?_)); exact kr) | (with_reducible refine zE ?_) | ((with_reducible apply zP); exact dp) | ((with_reducible apply zN); exact dn) | ((with_reducible apply zA); exact da) | ((with_reducible apply zS); exact ds) | ((with_reducible apply zY); exact rfl; exact rfl; exact tf) | ((with_reducible apply zG); exact rfl; exact rfl; exact tf) | ((with_reducible apply zU); exact rfl; exact rfl) | ((with_reducible apply zD); exact rfl; exact rfl) | ((with_reducible apply zB); exact rfl; exact rfl)))
    exact ⟨(k + 1, [(v, y)], z.1.1, z.1.2), ⟨hlt, hsn, .inr z.2⟩, hm, (And.intro rfl (And.intro rfl (And.intro rfl (And.intro rfl (And.intro rfl (And.intro rfl trivial)))))), (And.intro rfl (And.intro rfl (And.intro rfl (And.intro rfl trivial))))⟩
  · obtain ⟨hb1, hb2⟩ := hb.resolve_left (by simp)
    have hx1 : (rgS (u :: G)).length = (G.length + 1) * 2 := rgS_len2 (u :: G)
    have hl1 : G.length + 1 = k := by simpa using hGl
    have hbl : some (Blk.mk 64 (rgS (u :: G) ++ [I v, I y])) = some ⟨64, rgS (u :: (G ++ [(v, y)]))⟩ := by
      rw [← List.cons_append, rgS_app]
    have e9 : (u :: G ++ [(v, y)]).length = G.length + 1 + 1 := by simp
    (repeat' ((fail_if_success (with_reducible show AWp _ _ (.region 20 _ _) _ _)); (first | (with_reducible first | intro hg | refine mv (by constructor) ?_) | ((with_reducible first | refine zR ?_ ?_ | refine zW mixed ?_ ?_); exact kr) | ((with_reducible apply zK); exact rfl; exact tf) | ((with_reducible apply zCD); exact rfl) | ((with_reducible apply zCN); exact rfl) | ((with_reducible apply zC); exact rfl) | ((with_reducible refine zX ?_ ?_); exact rfl) | ((with_reducible refine zE (And.intro ?_ ?_)); exact kr) | (with_reducible refine zE ?_) | ((with_reducible apply zP); (first | exact o_indexI (j := k) (xs := ws) (f := T8) rfl rfl hlt rfl | exact o_loadR1 rfl hget | exact o_indexI (j := 0) (xs := [a, c]) (f := T8) rfl rfl (by show 0 < 2; decide) rfl | exact o_indexI (j := 1) (xs := [a, c]) (f := T8) rfl rfl (by show 1 < 2; decide) rfl | exact o_loadR1 rfl g0 | exact o_loadR1 rfl g1 | exact dp | exact oc rfl (hcw) | exact oc rfl (hna) | exact oc rfl (hnc))) | ((with_reducible apply zN); exact dn) | ((with_reducible apply zA); exact da) | ((with_reducible apply zS); exact ds) | ((with_reducible apply zY); exact rfl; exact rfl; exact tf) | ((with_reducible apply zG); exact rfl; exact rfl; exact tf) | ((with_reducible apply zU); exact rfl; exact rfl) | ((with_reducible apply zD); exact rfl; exact rfl) | ((with_reducible apply zB); exact rfl; exact rfl))))
    refine awp_regionL ?_
    ((refine wpl_run (l1 := [_, _, _, _, _, _, _]) rfl ?_ ?_); exact kr; (repeat' (first | (with_reducible first | intro hg | refine mv (by constructor) ?_) | ((with_reducible first | refine zR ?_ ?_ | refine zW mixed ?_ ?_); exact kr) | ((with_reducible apply zK); exact rfl; exact tf) | ((with_reducible apply zCD); exact rfl) | ((with_reducible apply zCN); exact rfl) | ((with_reducible apply zC); exact rfl) | ((with_reducible refine zX ?_ ?_); exact rfl) | ((with_reducible refine zE (And.intro ?_ ?_)); exact kr) | (with_reducible refine zE ?_) | ((with_reducible apply zP); (first | exact o_loadLk (L := PN) (sz := 2) rfl rfl rfl rfl (by rfl) (by exact hb1) (by exact hb2) | exact dp)) | ((with_reducible apply zN); exact dn) | ((with_reducible apply zA); (first | ((apply o_app); (case hx => exact rfl); (case hm => exact rfl); (case hy => exact .own rfl rfl); (case hty => exact rfl); (case hl => solve | exact hx1 | rfl); (case hcl => solve | rfl | exact hx1 | simp); (case hpos => omega); (case hb => omega); (case hb2 => omega); (case hnew => exact rfl)) | ((apply o_app); (case hx => exact rfl); (case hm => exact rfl); (case hy => exact .sl rfl); (case hty => exact rfl); (case hl => solve | exact hx1 | rfl); (case hcl => solve | rfl | exact hx1 | simp); (case hpos => omega); (case hb => omega); (case hb2 => omega); (case hnew => exact rfl)) | exact da)) | ((with_reducible apply zS); exact ds) | ((with_reducible apply zY); exact rfl; exact rfl; exact tf) | ((with_reducible apply zG); exact rfl; exact rfl; exact tf) | ((with_reducible apply zU); exact rfl; exact rfl) | ((with_reducible apply zD); exact rfl; exact rfl) | ((with_reducible apply zB); exact rfl; exact rfl))))
    refine wpl_turn (turns_pin 86 86 PN (by rfl) (by rfl) (by rfl) (by rfl) (by kernel_rfl)) fun z => ?_
    ((refine wpl_run (l1 := [_, _]) rfl ?_ ?_); exact kr; (repeat' (first | (with_reducible first | intro hg | refine mv (by constructor) ?_) | ((with_reducible first | refine zR ?_ ?_ | refine zW mixed ?_ ?_); exact kr) | ((with_reducible apply zK); exact rfl; exact tf) | ((with_reducible apply zCD); exact rfl) | ((with_reducible apply zCN); exact rfl) | ((with_reducible apply zC); exact rfl) | ((with_reducible refine zX ?_ ?_); exact rfl) | ((with_reducible refine zE (And.intro ?_ ?_)); exact kr) | (with_reducible refine zE ?_) | ((with_reducible apply zP); exact dp) | ((with_reducible apply zN); exact dn) | ((with_reducible apply zA); exact da) | ((with_reducible apply zS); exact ds) | ((with_reducible apply zY); exact rfl; exact rfl; exact tf) | ((with_reducible apply zG); exact rfl; exact rfl; exact tf) | ((with_reducible apply zU); exact rfl; exact rfl) | ((with_reducible apply zD); exact rfl; exact rfl) | ((with_reducible apply zB); exact rfl; exact rfl))))
    refine wpl_nil ?_
    (repeat' (first | (with_reducible first | intro hg | refine mv (by constructor) ?_) | ((with_reducible first | refine zR ?_ ?_ | refine zW mixed ?_ ?_); exact kr) | ((with_reducible apply zK); exact rfl; exact tf) | ((with_reducible apply zCD); exact rfl) | ((with_reducible apply zCN); exact rfl) | ((with_reducible apply zC); exact rfl) | ((with_reducible refine zX ?_ ?_); exact rfl) | ((with_reducible refine zE (And.intro ?_ ?_)); exact kr) | (with_reducible refine zE ?_) | ((with_reducible apply zP); exact dp) | ((with_reducible apply zN); exact dn) | ((with_reducible apply zA); exact da) | ((with_reducible apply zS); exact ds) | ((with_reducible apply zY); exact rfl; exact rfl; exact tf) | ((with_reducible apply zG); exact rfl; exact rfl; exact tf) | ((with_reducible apply zU); exact rfl; exact rfl) | ((with_reducible apply zD); exact rfl; exact rfl) | ((with_reducible apply zB); exact rfl; exact rfl)))
    refine ⟨(k + 1, u :: G ++ [(v, y)], z.1.1, z.1.2), ⟨hlt, hsn, .inr (by rw [e9]; exact z.2)⟩, hm, ?_, ?_⟩
    · show leF _ ((2, .ptr 2 0) :: (4, .ptr 4 0) :: (8, .ptr 8 0) :: (9, .d (tsl ws)) :: (10, .d (I ((k + 1 : Nat) : Int))) :: lkF PN z.1.1 z.1.2 2 (u :: G ++ [(v, y)]).length)
      rw [e9]
      exact (And.intro rfl (And.intro rfl (And.intro rfl (And.intro rfl (And.intro rfl (And.intro rfl trivial))))))
    · show leM _ ((2, ⟨24, [nilV, I 0]⟩) :: (4, ⟨24, [nilV, I 0]⟩) :: (8, ⟨24, [lkC z.1.1 z.1.2 (u :: G ++ [(v, y)]).length, I x]⟩) :: lkM PN 64 (rgS (u :: (G ++ [(v, y)]))) (u :: G ++ [(v, y)]).length)
      rw [e9]
      exact (And.intro rfl (And.intro rfl (And.intro rfl (And.intro (hbl) trivial))))

end Go.Proofs.YtfcfmpdpjmbcnaaGreatDoor
