/- The law of bounds that are never passed. Printed by wip/genxt.py. -/
import Derived.Test.YtiabcffcbhlbiaaSr
import Derived.Test.YtiabcffcbhlbiaaSp
import Derived.Test.YtiabcffcbhlbiaaSq
import Derived.Test.YtiabcffcbhlbiaaNf
set_option linter.unusedVariables false
set_option linter.unusedSimpArgs false
namespace Go.Proofs.Ytiabcffcbhlbiaa
open Go.RowKit
set_option maxRecDepth 20000
set_option maxHeartbeats 16000000

theorem zer_sx {c : List Rg} : sxE c (zer c.length) = 0 := by
  unfold sxE
  rw [decide_eq_true (by rw [lst_length]), any_of (m := 100) (by decide) fun t _ => by rw [zer_nth]; decide]
  rfl
theorem rsV_cases (c : List Rg) (den : Int) (s : Nat) : (rsV c den s = ((1, 1) :: (List.range s).map (fun t => qF (rsp den (losL c) (t + 1))), 0) ∧ ∀ t, t ≤ s → smQ (rsp den (losL c) t) = true) ∨ rsV c den s = ([], 8) := by
  unfold rsV
  cases h : (List.range s).all fun t => smQ (rsp den (losL c) (t + 1))
  · exact .inr rfl
  · refine .inl ⟨rfl, fun t ht => ?_⟩
    rcases t with _ | t
    · rfl
    · exact List.all_eq_true.1 h t (List.mem_range.2 (by omega))
theorem rsH_get {c : List Rg} {den : Int} {s t : Nat} (h : t ≤ s) : ((1, 1) :: (List.range s).map (fun t => qF (rsp den (losL c) (t + 1)))).getD t rg0 = qF (rsp den (losL c) t) := by
  rcases t with _ | t
  · rfl
  · rw [List.getD_cons_succ, List.getD_eq_getElem?_getD, List.getElem?_map, List.getElem?_range (by omega)]; rfl
def kR6 : Nat → Nat
  | 0 => 3
  | t + 1 => kR6 t + 6 + kR6 t + 6 + 1
theorem kR6_le : ∀ {t : Nat}, t ≤ 8 → kR6 t ≤ 10000 := by
  intro t ht
  have : ∀ t, t < 9 → kR6 t ≤ 10000 := by decide
  exact this t (by omega)
theorem sum_S6 {f : Nat → Rat} : ∀ {n : Nat}, (∀ t, t < n → RatS 6 (f t)) → RatS (kR6 n) (sumQ f n)
  | 0, _ => (int_ratS (n := 0) (by decide) : RatS 3 ((0 : Int) : Rat))
  | n + 1, h => by
    unfold sumQ kR6
    exact (sum_S6 fun t ht => h t (by omega)).add (h n (by omega))
theorem topNever_A (aw : AC Try.prog 6 [] (B true)) (c : List Rg) (den s : Int) (w dz : List Int) (hc : c.length ≤ 140737488355328) (hw : w.length ≤ 140737488355328) (hdz : dz.length ≤ 140737488355328) :
    AC Try.prog 3 [loV c den, .agg (prI s w), isl dz] (B true) := by
  have wl := qloopErr_A c den hc
  have we := qisExact_A c den hc
  have wp := qproofErr_A c den s w hc hw
  by_cases g1 : (c.length : Int) ≤ 3
  rotate_left
  ·
    refine ac_body Try.func3 rfl (by kernel_rfl) fun w0 ok => ?_; show AWp _ (ctx0 w0 ok _) _ (ARet _ _ _) (entry _)
    (repeat' (first | (with_reducible first | intro hg | refine mv (by constructor) ?_) | ((with_reducible first | refine zR ?_ ?_ | refine zW mixed ?_ ?_); exact kr) | ((with_reducible apply zK); exact rfl; exact tf) | ((with_reducible apply zCD); exact rfl) | ((with_reducible apply zCN); exact rfl) | ((with_reducible apply zC); exact rfl) | ((with_reducible refine zX ?_ ?_); exact rfl) | ((with_reducible refine zE (And.intro ?_ ?_)); exact kr) | (with_reducible refine zE ?_) | ((with_reducible apply zP); (first | exact dp | exact oc rfl (aw))) | ((with_reducible apply zN); exact dn) | ((with_reducible apply zA); exact da) | ((with_reducible apply zS); exact ds) | ((with_reducible apply zY); exact rfl; exact rfl; exact tf) | ((with_reducible apply zG); exact rfl; exact rfl; exact tf) | ((with_reducible apply zU); exact rfl; exact rfl) | ((with_reducible apply zD); exact rfl; exact rfl) | ((with_reducible apply zB); exact rfl; exact rfl)))
    ((with_reducible first | apply q_retR | apply q_retN); exact rl)
    rfl
  by_cases g2 : loE c den = 0
  rotate_left
  · generalize loE c den = u at *
    refine ac_body Try.func3 rfl (by kernel_rfl) fun w0 ok => ?_; show AWp _ (ctx0 w0 ok _) _ (ARet _ _ _) (entry _)
    (repeat' (first | (with_reducible first | intro hg | refine mv (by constructor) ?_) | ((with_reducible first | refine zR ?_ ?_ | refine zW mixed ?_ ?_); exact kr) | ((with_reducible apply zK); exact rfl; exact tf) | ((with_reducible apply zCD); exact rfl) | ((with_reducible apply zCN); exact rfl) | ((with_reducible apply zC); exact rfl) | ((with_reducible refine zX ?_ ?_); exact rfl) | ((with_reducible refine zE (And.intro ?_ ?_)); exact kr) | (with_reducible refine zE ?_) | ((with_reducible apply zP); (first | exact dp | exact oc rfl (aw) | exact oc rfl (wl))) | ((with_reducible apply zN); exact dn) | ((with_reducible apply zA); exact da) | ((with_reducible apply zS); exact ds) | ((with_reducible apply zY); exact rfl; exact rfl; exact tf) | ((with_reducible apply zG); exact rfl; exact rfl; exact tf) | ((with_reducible apply zU); exact rfl; exact rfl) | ((with_reducible apply zD); exact rfl; exact rfl) | ((with_reducible apply zB); exact rfl; exact rfl)))
    ((with_reducible first | apply q_retR | apply q_retN); exact rl)
    rfl
  rw [g2] at wl
  cases g3 : exB c
  · rw [g3] at we
    refine ac_body Try.func3 rfl (by kernel_rfl) fun w0 ok => ?_; show AWp _ (ctx0 w0 ok _) _ (ARet _ _ _) (entry _)
    (repeat' (first | (with_reducible first | intro hg | refine mv (by constructor) ?_) | ((with_reducible first | refine zR ?_ ?_ | refine zW mixed ?_ ?_); exact kr) | ((with_reducible apply zK); exact rfl; exact tf) | ((with_reducible apply zCD); exact rfl) | ((with_reducible apply zCN); exact rfl) | ((with_reducible apply zC); exact rfl) | ((with_reducible refine zX ?_ ?_); exact rfl) | ((with_reducible refine zE (And.intro ?_ ?_)); exact kr) | (with_reducible refine zE ?_) | ((with_reducible apply zP); (first | exact dp | exact oc rfl (aw) | exact oc rfl (wl) | exact oc rfl (we))) | ((with_reducible apply zN); exact dn) | ((with_reducible apply zA); exact da) | ((with_reducible apply zS); exact ds) | ((with_reducible apply zY); exact rfl; exact rfl; exact tf) | ((with_reducible apply zG); exact rfl; exact rfl; exact tf) | ((with_reducible apply zU); exact rfl; exact rfl) | ((with_reducible apply zD); exact rfl; exact rfl) | ((with_reducible apply zB); exact rfl; exact rfl)))
    ((with_reducible first | apply q_retR | apply q_retN); exact rl)
    rfl
  rw [g3] at we
  by_cases g5 : (w.length : Int) ≤ 3
  rotate_left
  ·
    refine ac_body Try.func3 rfl (by kernel_rfl) fun w0 ok => ?_; show AWp _ (ctx0 w0 ok _) _ (ARet _ _ _) (entry _)
    (repeat' (first | (with_reducible first | intro hg | refine mv (by constructor) ?_) | ((with_reducible first | refine zR ?_ ?_ | refine zW mixed ?_ ?_); exact kr) | ((with_reducible apply zK); exact rfl; exact tf) | ((with_reducible apply zCD); exact rfl) | ((with_reducible apply zCN); exact rfl) | ((with_reducible apply zC); exact rfl) | ((with_reducible refine zX ?_ ?_); exact rfl) | ((with_reducible refine zE (And.intro ?_ ?_)); exact kr) | (with_reducible refine zE ?_) | ((with_reducible apply zP); (first | exact dp | exact oc rfl (aw) | exact oc rfl (wl) | exact oc rfl (we))) | ((with_reducible apply zN); exact dn) | ((with_reducible apply zA); exact da) | ((with_reducible apply zS); exact ds) | ((with_reducible apply zY); exact rfl; exact rfl; exact tf) | ((with_reducible apply zG); exact rfl; exact rfl; exact tf) | ((with_reducible apply zU); exact rfl; exact rfl) | ((with_reducible apply zD); exact rfl; exact rfl) | ((with_reducible apply zB); exact rfl; exact rfl)))
    ((with_reducible first | apply q_retR | apply q_retN); exact rl)
    rfl
  by_cases g4 : pfE c s w = 0
  rotate_left
  · generalize pfE c s w = u at *
    refine ac_body Try.func3 rfl (by kernel_rfl) fun w0 ok => ?_; show AWp _ (ctx0 w0 ok _) _ (ARet _ _ _) (entry _)
    (repeat' (first | (with_reducible first | intro hg | refine mv (by constructor) ?_) | ((with_reducible first | refine zR ?_ ?_ | refine zW mixed ?_ ?_); exact kr) | ((with_reducible apply zK); exact rfl; exact tf) | ((with_reducible apply zCD); exact rfl) | ((with_reducible apply zCN); exact rfl) | ((with_reducible apply zC); exact rfl) | ((with_reducible refine zX ?_ ?_); exact rfl) | ((with_reducible refine zE (And.intro ?_ ?_)); exact kr) | (with_reducible refine zE ?_) | ((with_reducible apply zP); (first | exact dp | exact oc rfl (aw) | exact oc rfl (wl) | exact oc rfl (we) | exact oc rfl (wp))) | ((with_reducible apply zN); exact dn) | ((with_reducible apply zA); exact da) | ((with_reducible apply zS); exact ds) | ((with_reducible apply zY); exact rfl; exact rfl; exact tf) | ((with_reducible apply zG); exact rfl; exact rfl; exact tf) | ((with_reducible apply zU); exact rfl; exact rfl) | ((with_reducible apply zD); exact rfl; exact rfl) | ((with_reducible apply zB); exact rfl; exact rfl)))
    ((with_reducible first | apply q_retR | apply q_retN); exact rl)
    rfl
  rw [g4] at wp
  by_cases g7 : dz.length = 0
  ·
    refine ac_body Try.func3 rfl (by kernel_rfl) fun w0 ok => ?_; show AWp _ (ctx0 w0 ok _) _ (ARet _ _ _) (entry _)
    (repeat' (first | (with_reducible first | intro hg | refine mv (by constructor) ?_) | ((with_reducible first | refine zR ?_ ?_ | refine zW mixed ?_ ?_); exact kr) | ((with_reducible apply zK); exact rfl; exact tf) | ((with_reducible apply zCD); exact rfl) | ((with_reducible apply zCN); exact rfl) | ((with_reducible apply zC); exact rfl) | ((with_reducible refine zX ?_ ?_); exact rfl) | ((with_reducible refine zE (And.intro ?_ ?_)); exact kr) | (with_reducible refine zE ?_) | ((with_reducible apply zP); (first | exact dp | exact oc rfl (aw) | exact oc rfl (wl) | exact oc rfl (we) | exact oc rfl (wp))) | ((with_reducible apply zN); exact dn) | ((with_reducible apply zA); exact da) | ((with_reducible apply zS); exact ds) | ((with_reducible apply zY); exact rfl; exact rfl; exact tf) | ((with_reducible apply zG); exact rfl; exact rfl; exact tf) | ((with_reducible apply zU); exact rfl; exact rfl) | ((with_reducible apply zD); exact rfl; exact rfl) | ((with_reducible apply zB); exact rfl; exact rfl)))
    ((with_reducible first | apply q_retR | apply q_retN); exact rl)
    rfl
  by_cases g6 : dz.length ≤ 8
  rotate_left
  ·
    refine ac_body Try.func3 rfl (by kernel_rfl) fun w0 ok => ?_; show AWp _ (ctx0 w0 ok _) _ (ARet _ _ _) (entry _)
    (repeat' (first | (with_reducible first | intro hg | refine mv (by constructor) ?_) | ((with_reducible first | refine zR ?_ ?_ | refine zW mixed ?_ ?_); exact kr) | ((with_reducible apply zK); exact rfl; exact tf) | ((with_reducible apply zCD); exact rfl) | ((with_reducible apply zCN); exact rfl) | ((with_reducible apply zC); exact rfl) | ((with_reducible refine zX ?_ ?_); exact rfl) | ((with_reducible refine zE (And.intro ?_ ?_)); exact kr) | (with_reducible refine zE ?_) | ((with_reducible apply zP); (first | exact dp | exact oc rfl (aw) | exact oc rfl (wl) | exact oc rfl (we) | exact oc rfl (wp))) | ((with_reducible apply zN); exact dn) | ((with_reducible apply zA); exact da) | ((with_reducible apply zS); exact ds) | ((with_reducible apply zY); exact rfl; exact rfl; exact tf) | ((with_reducible apply zG); exact rfl; exact rfl; exact tf) | ((with_reducible apply zU); exact rfl; exact rfl) | ((with_reducible apply zD); exact rfl; exact rfl) | ((with_reducible apply zB); exact rfl; exact rfl)))
    ((with_reducible first | apply q_retR | apply q_retN); exact rl)
    rfl
  obtain ⟨m0, rfl, hp⟩ := pfE_ok g4
  obtain ⟨m, rfl⟩ : ∃ m, m0 = m + 1 := ⟨m0 - 1, by have := hp.s1; omega⟩
  have hL := loE_ok g2
  have hl1 := hL.l1
  have hl3 := hL.l3
  have hwl := hp.l
  have w5 := copyInts_A dz (by omega)
  refine ac_body Try.func3 rfl (by kernel_rfl) fun w0 ok => ?_; show AWp _ (ctx0 w0 ok _) _ (ARet _ _ _) (entry _)
  (repeat' (first | (with_reducible first | intro hg | refine mv (by constructor) ?_) | ((with_reducible first | refine zR ?_ ?_ | refine zW mixed ?_ ?_); exact kr) | ((with_reducible apply zK); exact rfl; exact tf) | ((with_reducible apply zCD); exact rfl) | ((with_reducible apply zCN); exact rfl) | ((with_reducible apply zC); exact rfl) | ((with_reducible refine zX ?_ ?_); exact rfl) | ((with_reducible refine zE (And.intro ?_ ?_)); exact kr) | (with_reducible refine zE ?_) | ((with_reducible apply zP); (first | exact o_makeSlD (n := c.length) rfl (by omega) (by omega) (zer_int _) | exact dp | exact oc rfl (aw) | exact oc rfl (wl) | exact oc rfl (we) | exact oc rfl (wp) | exact oc rfl (w5))) | ((with_reducible apply zN); exact dn) | ((with_reducible apply zA); exact da) | ((with_reducible apply zS); exact ds) | ((with_reducible apply zY); exact rfl; exact rfl; exact tf) | ((with_reducible apply zG); exact rfl; exact rfl; exact tf) | ((with_reducible apply zU); exact rfl; exact rfl) | ((with_reducible apply zD); exact rfl; exact rfl) | ((with_reducible apply zB); exact rfl; exact rfl)))
  clear wl we wp w5 aw
  refine awp_loopL3 (fun (k b cap : Nat) => (2, .d (isl dz)) :: (3, .ptr 3 0) :: (4, .ptr 4 0) :: (7, .ptr 7 0) :: (8, .d (I (bigD dz k : Nat))) :: (9, .d (I (k : Nat))) :: lkF PN b cap 1 k) (fun k b cap => (3, ⟨24, [rgV c, I den]⟩) :: (4, ⟨27, prI ((m + 1 : Nat) : Int) w⟩) :: (7, ⟨35, [.slice c.length (ivs (zer c.length)), lkC b cap k, isl dz]⟩) :: lkM PN 25 (llS (rpl c k)) k) (fun k b cap => (k ≤ dz.length ∧ LkJ b cap k) ∧ ∀ t, t < k → inR (nth dz t) (-100) 100 = true) (fun k _ _ => dz.length - k) 0 0 0 ⟨⟨Nat.zero_le _, .inl rfl⟩, fun t ht => absurd ht (Nat.not_lt_zero t)⟩ (And.intro rfl (And.intro rfl (And.intro rfl (And.intro rfl (And.intro rfl (And.intro rfl trivial)))))) (And.intro rfl (And.intro rfl (And.intro rfl trivial))) fun k b cap ⟨⟨hk, hb⟩, hin⟩ => ?_
  by_cases hlt : k < dz.length
  · have w1 := bwithin_A (nth dz k) (-100) 100
    have hsC := rpl_snoc c k
    have hlC := rpl_len c k
    cases hq : inR (nth dz k) (-100) 100
    · clear hin
      rw [hq] at w1
      rcases k with _ | k
      · (repeat' (first | (with_reducible first | intro hg | refine mv (by constructor) ?_) | ((with_reducible first | refine zR ?_ ?_ | refine zW mixed ?_ ?_); exact kr) | ((with_reducible apply zK); exact rfl; exact tf) | ((with_reducible apply zCD); exact rfl) | ((with_reducible apply zCN); exact rfl) | ((with_reducible apply zC); exact rfl) | ((with_reducible refine zX ?_ ?_); exact rfl) | ((with_reducible refine zE (And.intro ?_ ?_)); exact kr) | (with_reducible refine zE ?_) | ((with_reducible apply zP); (first | exact o_indexI (xs := dz) (j := 0) rfl rfl (by omega) (by omega) | exact dp | exact oc rfl (w1))) | ((with_reducible apply zN); exact dn) | ((with_reducible apply zA); exact da) | ((with_reducible apply zS); exact ds) | ((with_reducible apply zY); exact rfl; exact rfl; exact tf) | ((with_reducible apply zG); exact rfl; exact rfl; exact tf) | ((with_reducible apply zU); exact rfl; exact rfl) | ((with_reducible apply zD); exact rfl; exact rfl) | ((with_reducible apply zB); exact rfl; exact rfl)))
        ((with_reducible first | apply q_retR | apply q_retN); exact rl)
        rfl
      · (repeat' (first | (with_reducible first | intro hg | refine mv (by constructor) ?_) | ((with_reducible first | refine zR ?_ ?_ | refine zW mixed ?_ ?_); exact kr) | ((with_reducible apply zK); exact rfl; exact tf) | ((with_reducible apply zCD); exact rfl) | ((with_reducible apply zCN); exact rfl) | ((with_reducible apply zC); exact rfl) | ((with_reducible refine zX ?_ ?_); exact rfl) | ((with_reducible refine zE (And.intro ?_ ?_)); exact kr) | (with_reducible refine zE ?_) | ((with_reducible apply zP); (first | exact o_indexI (xs := dz) (j := k + 1) rfl rfl (by omega) (by omega) | exact dp | exact oc rfl (w1))) | ((with_reducible apply zN); exact dn) | ((with_reducible apply zA); exact da) | ((with_reducible apply zS); exact ds) | ((with_reducible apply zY); exact rfl; exact rfl; exact tf) | ((with_reducible apply zG); exact rfl; exact rfl; exact tf) | ((with_reducible apply zU); exact rfl; exact rfl) | ((with_reducible apply zD); exact rfl; exact rfl) | ((with_reducible apply zB); exact rfl; exact rfl)))
        ((with_reducible first | apply q_retR | apply q_retN); exact rl)
        rfl
    rw [hq] at w1
    have hin2 : ∀ t, t < k + 1 → inR (nth dz t) (-100) 100 = true := fun t ht => by
      by_cases e : t = k
      · rw [e]; exact hq
      · exact hin t (by omega)
    obtain ⟨r1, r2⟩ := inR_true.1 hq
    clear hin hq
    have w2 := bsize_A (nth dz k) ⟨by omega, by omega⟩
    have hmx : max ((bigD dz k : Nat) : Int) ((nth dz k).natAbs : Int) = ((bigD dz (k + 1) : Nat) : Int) := by
      show _ = ((max (bigD dz k) (nth dz k).natAbs : Nat) : Int)
      omega
    rcases k with _ | k
    · clear hb
      (repeat' (first | (with_reducible first | intro hg | refine mv (by constructor) ?_) | ((with_reducible first | refine zR ?_ ?_ | refine zW mixed ?_ ?_); exact kr) | ((with_reducible apply zK); exact rfl; exact tf) | ((with_reducible apply zCD); exact rfl) | ((with_reducible apply zCN); exact rfl) | ((with_reducible apply zC); exact rfl) | ((with_reducible refine zX ?_ ?_); exact rfl) | ((with_reducible refine zE (And.intro ?_ ?_)); exact kr) | (with_reducible refine zE ?_) | ((with_reducible apply zP); (first | exact o_indexI (xs := dz) (j := 0) rfl rfl (by omega) (by omega) | exact dp | exact oc rfl (w1) | exact oc rfl (w2))) | ((with_reducible apply zN); exact dn) | ((with_reducible apply zA); exact da) | ((with_reducible apply zS); exact ds) | ((with_reducible apply zY); exact rfl; exact rfl; exact tf) | ((with_reducible apply zG); exact rfl; exact rfl; exact tf) | ((with_reducible apply zU); exact rfl; exact rfl) | ((with_reducible apply zD); exact rfl; exact rfl) | ((with_reducible apply zB); exact rfl; exact rfl)))
      refine awp_loopL (α := Nat) (fun i => (2, .d (isl dz)) :: (3, .ptr 3 0) :: (4, .ptr 4 0) :: (7, .ptr 7 0) :: (8, .d (I (bigD dz (0 + 1) : Nat))) :: (9, .d (I (0 : Nat))) :: (10, ownS 102 i) :: (11, .d (I i)) :: []) (fun i => (3, ⟨24, [rgV c, I den]⟩) :: (4, ⟨27, prI ((m + 1 : Nat) : Int) w⟩) :: (7, ⟨35, [.slice c.length (ivs (zer c.length)), nilV, isl dz]⟩) :: ownM 102 3 (ivs (lst (fun i => (c.getD i rg0).1) i)) i) (fun i => i ≤ c.length) (fun i => c.length - i) 0 (Nat.zero_le _) (And.intro rfl (And.intro rfl (And.intro rfl (And.intro rfl (And.intro (congrArg (fun n : Int => AV.d (I n)) hmx) (And.intro (rfl) (And.intro (rfl) (And.intro (rfl) trivial)))))))) (And.intro rfl (And.intro rfl (And.intro rfl trivial))) fun i hi => ?_
      by_cases hil : i < c.length
      · have hsi : ivs (lst (fun i => (c.getD i rg0).1) i) ++ [I (c.getD i rg0).1] = ivs (lst (fun i => (c.getD i rg0).1) (i + 1)) := ivs_snoc _ _ rfl
        have hli : (ivs (lst (fun i => (c.getD i rg0).1) i)).length = i * 1 := by rw [ivs_len, Nat.mul_one]
        clear hmx
        rcases i with _ | i
        · (repeat' (first | (with_reducible first | intro hg | refine mv (by constructor) ?_) | ((with_reducible first | refine zR ?_ ?_ | refine zW mixed ?_ ?_); exact kr) | ((with_reducible apply zK); exact rfl; exact tf) | ((with_reducible apply zCD); exact rfl) | ((with_reducible apply zCN); exact rfl) | ((with_reducible apply zC); exact rfl) | ((with_reducible refine zX ?_ ?_); exact rfl) | ((with_reducible refine zE (And.intro ?_ ?_)); exact kr) | (with_reducible refine zE ?_) | ((with_reducible apply zP); (first | exact o_indexF rg0 (j := 0) frC_len (by decide) rfl rfl (by omega) rfl | exact dp)) | ((with_reducible apply zN); exact dn) | ((with_reducible apply zA); exact da) | ((with_reducible apply zS); exact ds) | ((with_reducible apply zY); exact rfl; exact rfl; exact tf) | ((with_reducible apply zG); exact rfl; exact rfl; exact tf) | ((with_reducible apply zU); exact rfl; exact rfl) | ((with_reducible apply zD); exact rfl; exact rfl) | ((with_reducible apply zB); exact rfl; exact rfl)))
          exact ⟨1, hil, by omega, (And.intro rfl (And.intro rfl (And.intro rfl (And.intro rfl (And.intro rfl (And.intro rfl (And.intro rfl (And.intro rfl trivial)))))))), (And.intro rfl (And.intro rfl (And.intro rfl (And.intro (congrArg (fun l => some (Blk.mk _ l)) hsi) trivial))))⟩
        · (repeat' (first | (with_reducible first | intro hg | refine mv (by constructor) ?_) | ((with_reducible first | refine zR ?_ ?_ | refine zW mixed ?_ ?_); exact kr) | ((with_reducible apply zK); exact rfl; exact tf) | ((with_reducible apply zCD); exact rfl) | ((with_reducible apply zCN); exact rfl) | ((with_reducible apply zC); exact rfl) | ((with_reducible refine zX ?_ ?_); exact rfl) | ((with_reducible refine zE (And.intro ?_ ?_)); exact kr) | (with_reducible refine zE ?_) | ((with_reducible apply zP); (first | exact o_indexF rg0 (j := i + 1) frC_len (by decide) rfl rfl (by omega) rfl | exact dp)) | ((with_reducible apply zN); exact dn) | ((with_reducible apply zA); (first | ((apply o_app); (case hx => exact rfl); (case hm => exact rfl); (case hy => exact .own rfl rfl); (case hty => exact rfl); (case hl => solve | exact hli | rfl); (case hcl => solve | rfl | exact hli | simp); (case hpos => omega); (case hb => omega); (case hb2 => omega); (case hnew => exact rfl)) | ((apply o_app); (case hx => exact rfl); (case hm => exact rfl); (case hy => exact .sl rfl); (case hty => exact rfl); (case hl => solve | exact hli | rfl); (case hcl => solve | rfl | exact hli | simp); (case hpos => omega); (case hb => omega); (case hb2 => omega); (case hnew => exact rfl)) | exact da)) | ((with_reducible apply zS); exact ds) | ((with_reducible apply zY); exact rfl; exact rfl; exact tf) | ((with_reducible apply zG); exact rfl; exact rfl; exact tf) | ((with_reducible apply zU); exact rfl; exact rfl) | ((with_reducible apply zD); exact rfl; exact rfl) | ((with_reducible apply zB); exact rfl; exact rfl)))
          exact ⟨i + 1 + 1, hil, by omega, (And.intro rfl (And.intro rfl (And.intro rfl (And.intro rfl (And.intro rfl (And.intro rfl (And.intro rfl (And.intro rfl trivial)))))))), (And.intro rfl (And.intro rfl (And.intro rfl (And.intro (congrArg (fun l => some (Blk.mk _ l)) hsi) trivial))))⟩
      obtain rfl : i = c.length := by omega
      obtain ⟨m2, hm⟩ : ∃ m2, c.length = m2 + 1 := ⟨c.length - 1, by omega⟩
      refine awp_cut [(2, .d (isl dz)), (3, .ptr 3 0), (4, .ptr 4 0), (7, .ptr 7 0), (8, .d (I (bigD dz (0 + 1) : Nat))), (9, .d (I (0 : Nat))), (10, ownS 102 c.length), (11, .d (I c.length))] [(3, ⟨24, [rgV c, I den]⟩), (4, ⟨27, prI ((m + 1 : Nat) : Int) w⟩), (7, ⟨35, [.slice c.length (ivs (zer c.length)), nilV, isl dz]⟩), (102, ⟨3, ivs (lst (fun i => (c.getD i rg0).1) c.length)⟩)] (And.intro rfl (And.intro rfl (And.intro rfl (And.intro rfl (And.intro rfl (And.intro rfl (And.intro rfl (And.intro rfl trivial)))))))) (And.intro rfl (And.intro rfl (And.intro rfl (And.intro (by rw [hm]; rfl) trivial)))) ?_
      refine awp_own 10 102 (t := 3) (fun i => (c.getD i rg0).1) rfl (fun k hk => rfl) ?_
      rw [losL_lst]
      clear hm
      (repeat' ((fail_if_success (with_reducible show AWp _ _ (.region 18 _ _) _ _)); (first | (with_reducible first | intro hg | refine mv (by constructor) ?_) | ((with_reducible first | refine zR ?_ ?_ | refine zW mixed ?_ ?_); exact kr) | ((with_reducible apply zK); exact rfl; exact tf) | ((with_reducible apply zCD); exact rfl) | ((with_reducible apply zCN); exact rfl) | ((with_reducible apply zC); exact rfl) | ((with_reducible refine zX ?_ ?_); exact rfl) | ((with_reducible refine zE (And.intro ?_ ?_)); exact kr) | (with_reducible refine zE ?_) | ((with_reducible apply zP); exact dp) | ((with_reducible apply zN); exact dn) | ((with_reducible apply zA); exact da) | ((with_reducible apply zS); exact ds) | ((with_reducible apply zY); exact rfl; exact rfl; exact tf) | ((with_reducible apply zG); exact rfl; exact rfl; exact tf) | ((with_reducible apply zU); exact rfl; exact rfl) | ((with_reducible apply zD); exact rfl; exact rfl) | ((with_reducible apply zB); exact rfl; exact rfl))))
      refine awp_regionL ?_
      ((refine wpl_run (l1 := [_, _, _, _, _]) rfl ?_ ?_); exact kr; (repeat' (first | (with_reducible first | intro hg | refine mv (by constructor) ?_) | ((with_reducible first | refine zR ?_ ?_ | refine zW mixed ?_ ?_); exact kr) | ((with_reducible apply zK); exact rfl; exact tf) | ((with_reducible apply zCD); exact rfl) | ((with_reducible apply zCN); exact rfl) | ((with_reducible apply zC); exact rfl) | ((with_reducible refine zX ?_ ?_); exact rfl) | ((with_reducible refine zE (And.intro ?_ ?_)); exact kr) | (with_reducible refine zE ?_) | ((with_reducible apply zP); exact dp) | ((with_reducible apply zN); exact dn) | ((with_reducible apply zA); exact da) | ((with_reducible apply zS); exact ds) | ((with_reducible apply zY); exact rfl; exact rfl; exact tf) | ((with_reducible apply zG); exact rfl; exact rfl; exact tf) | ((with_reducible apply zU); exact rfl; exact rfl) | ((with_reducible apply zD); exact rfl; exact rfl) | ((with_reducible apply zB); exact rfl; exact rfl))))
      refine wpl_turn (turns_pin 107 107 PN (by rfl) (by rfl) (by rfl) (by rfl) (by kernel_rfl)) fun y => ?_
      ((refine wpl_run (l1 := [_, _]) rfl ?_ ?_); exact kr; (repeat' (first | (with_reducible first | intro hg | refine mv (by constructor) ?_) | ((with_reducible first | refine zR ?_ ?_ | refine zW mixed ?_ ?_); exact kr) | ((with_reducible apply zK); exact rfl; exact tf) | ((with_reducible apply zCD); exact rfl) | ((with_reducible apply zCN); exact rfl) | ((with_reducible apply zC); exact rfl) | ((with_reducible refine zX ?_ ?_); exact rfl) | ((with_reducible refine zE (And.intro ?_ ?_)); exact kr) | (with_reducible refine zE ?_) | ((with_reducible apply zP); exact dp) | ((with_reducible apply zN); exact dn) | ((with_reducible apply zA); exact da) | ((with_reducible apply zS); exact ds) | ((with_reducible apply zY); exact rfl; exact rfl; exact tf) | ((with_reducible apply zG); exact rfl; exact rfl; exact tf) | ((with_reducible apply zU); exact rfl; exact rfl) | ((with_reducible apply zD); exact rfl; exact rfl) | ((with_reducible apply zB); exact rfl; exact rfl))))
      refine wpl_nil ?_
      (repeat' (first | (with_reducible first | intro hg | refine mv (by constructor) ?_) | ((with_reducible first | refine zR ?_ ?_ | refine zW mixed ?_ ?_); exact kr) | ((with_reducible apply zK); exact rfl; exact tf) | ((with_reducible apply zCD); exact rfl) | ((with_reducible apply zCN); exact rfl) | ((with_reducible apply zC); exact rfl) | ((with_reducible refine zX ?_ ?_); exact rfl) | ((with_reducible refine zE (And.intro ?_ ?_)); exact kr) | (with_reducible refine zE ?_) | ((with_reducible apply zP); exact dp) | ((with_reducible apply zN); exact dn) | ((with_reducible apply zA); exact da) | ((with_reducible apply zS); exact ds) | ((with_reducible apply zY); exact rfl; exact rfl; exact tf) | ((with_reducible apply zG); exact rfl; exact rfl; exact tf) | ((with_reducible apply zU); exact rfl; exact rfl) | ((with_reducible apply zD); exact rfl; exact rfl) | ((with_reducible apply zB); exact rfl; exact rfl)))
      exact ⟨1, y.1.1, y.1.2, ⟨⟨hlt, LkJ.of y⟩, hin2⟩, by omega, (And.intro rfl (And.intro rfl (And.intro rfl (And.intro rfl (And.intro rfl (And.intro rfl (And.intro rfl trivial))))))), (And.intro rfl (And.intro rfl (And.intro rfl (And.intro (congrArg (fun l => some (Blk.mk _ l)) hsC) trivial))))⟩
    · skip
      obtain ⟨hb1, hb2⟩ := hb.resolve_left (by omega)
      (repeat' (first | (with_reducible first | intro hg | refine mv (by constructor) ?_) | ((with_reducible first | refine zR ?_ ?_ | refine zW mixed ?_ ?_); exact kr) | ((with_reducible apply zK); exact rfl; exact tf) | ((with_reducible apply zCD); exact rfl) | ((with_reducible apply zCN); exact rfl) | ((with_reducible apply zC); exact rfl) | ((with_reducible refine zX ?_ ?_); exact rfl) | ((with_reducible refine zE (And.intro ?_ ?_)); exact kr) | (with_reducible refine zE ?_) | ((with_reducible apply zP); (first | exact o_indexI (xs := dz) (j := k + 1) rfl rfl (by omega) (by omega) | exact dp | exact oc rfl (w1) | exact oc rfl (w2))) | ((with_reducible apply zN); exact dn) | ((with_reducible apply zA); exact da) | ((with_reducible apply zS); exact ds) | ((with_reducible apply zY); exact rfl; exact rfl; exact tf) | ((with_reducible apply zG); exact rfl; exact rfl; exact tf) | ((with_reducible apply zU); exact rfl; exact rfl) | ((with_reducible apply zD); exact rfl; exact rfl) | ((with_reducible apply zB); exact rfl; exact rfl)))
      refine awp_loopL (α := Nat) (fun i => (2, .d (isl dz)) :: (3, .ptr 3 0) :: (4, .ptr 4 0) :: (7, .ptr 7 0) :: (8, .d (I (bigD dz (k + 1 + 1) : Nat))) :: (9, .d (I (k + 1 : Nat))) :: (10, ownS 102 i) :: (11, .d (I i)) :: [(PN, linkP b cap 1)]) (fun i => (3, ⟨24, [rgV c, I den]⟩) :: (4, ⟨27, prI ((m + 1 : Nat) : Int) w⟩) :: (7, ⟨35, [.slice c.length (ivs (zer c.length)), linkC b cap (k + 1), isl dz]⟩) :: (PN, ⟨25, llS (rpl c (k + 1))⟩) :: ownM 102 3 (ivs (lst (fun i => (c.getD i rg0).1) i)) i) (fun i => i ≤ c.length) (fun i => c.length - i) 0 (Nat.zero_le _) (And.intro rfl (And.intro rfl (And.intro rfl (And.intro rfl (And.intro (congrArg (fun n : Int => AV.d (I n)) hmx) (And.intro (rfl) (And.intro (rfl) (And.intro (rfl) (And.intro (rfl) trivial))))))))) (And.intro rfl (And.intro rfl (And.intro rfl (And.intro rfl trivial)))) fun i hi => ?_
      by_cases hil : i < c.length
      · have hsi : ivs (lst (fun i => (c.getD i rg0).1) i) ++ [I (c.getD i rg0).1] = ivs (lst (fun i => (c.getD i rg0).1) (i + 1)) := ivs_snoc _ _ rfl
        have hli : (ivs (lst (fun i => (c.getD i rg0).1) i)).length = i * 1 := by rw [ivs_len, Nat.mul_one]
        clear hmx
        rcases i with _ | i
        · (repeat' (first | (with_reducible first | intro hg | refine mv (by constructor) ?_) | ((with_reducible first | refine zR ?_ ?_ | refine zW mixed ?_ ?_); exact kr) | ((with_reducible apply zK); exact rfl; exact tf) | ((with_reducible apply zCD); exact rfl) | ((with_reducible apply zCN); exact rfl) | ((with_reducible apply zC); exact rfl) | ((with_reducible refine zX ?_ ?_); exact rfl) | ((with_reducible refine zE (And.intro ?_ ?_)); exact kr) | (with_reducible refine zE ?_) | ((with_reducible apply zP); (first | exact o_indexF rg0 (j := 0) frC_len (by decide) rfl rfl (by omega) rfl | exact dp)) | ((with_reducible apply zN); exact dn) | ((with_reducible apply zA); exact da) | ((with_reducible apply zS); exact ds) | ((with_reducible apply zY); exact rfl; exact rfl; exact tf) | ((with_reducible apply zG); exact rfl; exact rfl; exact tf) | ((with_reducible apply zU); exact rfl; exact rfl) | ((with_reducible apply zD); exact rfl; exact rfl) | ((with_reducible apply zB); exact rfl; exact rfl)))
          exact ⟨1, hil, by omega, (And.intro rfl (And.intro rfl (And.intro rfl (And.intro rfl (And.intro rfl (And.intro rfl (And.intro rfl (And.intro rfl (And.intro rfl trivial))))))))), (And.intro rfl (And.intro rfl (And.intro rfl (And.intro rfl (And.intro (congrArg (fun l => some (Blk.mk _ l)) hsi) trivial)))))⟩
        · (repeat' (first | (with_reducible first | intro hg | refine mv (by constructor) ?_) | ((with_reducible first | refine zR ?_ ?_ | refine zW mixed ?_ ?_); exact kr) | ((with_reducible apply zK); exact rfl; exact tf) | ((with_reducible apply zCD); exact rfl) | ((with_reducible apply zCN); exact rfl) | ((with_reducible apply zC); exact rfl) | ((with_reducible refine zX ?_ ?_); exact rfl) | ((with_reducible refine zE (And.intro ?_ ?_)); exact kr) | (with_reducible refine zE ?_) | ((with_reducible apply zP); (first | exact o_indexF rg0 (j := i + 1) frC_len (by decide) rfl rfl (by omega) rfl | exact dp)) | ((with_reducible apply zN); exact dn) | ((with_reducible apply zA); (first | ((apply o_app); (case hx => exact rfl); (case hm => exact rfl); (case hy => exact .own rfl rfl); (case hty => exact rfl); (case hl => solve | exact hli | rfl); (case hcl => solve | rfl | exact hli | simp); (case hpos => omega); (case hb => omega); (case hb2 => omega); (case hnew => exact rfl)) | ((apply o_app); (case hx => exact rfl); (case hm => exact rfl); (case hy => exact .sl rfl); (case hty => exact rfl); (case hl => solve | exact hli | rfl); (case hcl => solve | rfl | exact hli | simp); (case hpos => omega); (case hb => omega); (case hb2 => omega); (case hnew => exact rfl)) | exact da)) | ((with_reducible apply zS); exact ds) | ((with_reducible apply zY); exact rfl; exact rfl; exact tf) | ((with_reducible apply zG); exact rfl; exact rfl; exact tf) | ((with_reducible apply zU); exact rfl; exact rfl) | ((with_reducible apply zD); exact rfl; exact rfl) | ((with_reducible apply zB); exact rfl; exact rfl)))
          exact ⟨i + 1 + 1, hil, by omega, (And.intro rfl (And.intro rfl (And.intro rfl (And.intro rfl (And.intro rfl (And.intro rfl (And.intro rfl (And.intro rfl (And.intro rfl trivial))))))))), (And.intro rfl (And.intro rfl (And.intro rfl (And.intro rfl (And.intro (congrArg (fun l => some (Blk.mk _ l)) hsi) trivial)))))⟩
      obtain rfl : i = c.length := by omega
      obtain ⟨m2, hm⟩ : ∃ m2, c.length = m2 + 1 := ⟨c.length - 1, by omega⟩
      refine awp_cut [(2, .d (isl dz)), (3, .ptr 3 0), (4, .ptr 4 0), (7, .ptr 7 0), (8, .d (I (bigD dz (k + 1 + 1) : Nat))), (9, .d (I (k + 1 : Nat))), (10, ownS 102 c.length), (11, .d (I c.length)), (PN, linkP b cap 1)] [(3, ⟨24, [rgV c, I den]⟩), (4, ⟨27, prI ((m + 1 : Nat) : Int) w⟩), (7, ⟨35, [.slice c.length (ivs (zer c.length)), linkC b cap (k + 1), isl dz]⟩), (PN, ⟨25, llS (rpl c (k + 1))⟩), (102, ⟨3, ivs (lst (fun i => (c.getD i rg0).1) c.length)⟩)] (And.intro rfl (And.intro rfl (And.intro rfl (And.intro rfl (And.intro rfl (And.intro rfl (And.intro rfl (And.intro rfl (And.intro rfl trivial))))))))) (And.intro rfl (And.intro rfl (And.intro rfl (And.intro rfl (And.intro (by rw [hm]; rfl) trivial))))) ?_
      refine awp_own 10 102 (t := 3) (fun i => (c.getD i rg0).1) rfl (fun k hk => rfl) ?_
      rw [losL_lst]
      clear hm
      (repeat' ((fail_if_success (with_reducible show AWp _ _ (.region 18 _ _) _ _)); (first | (with_reducible first | intro hg | refine mv (by constructor) ?_) | ((with_reducible first | refine zR ?_ ?_ | refine zW mixed ?_ ?_); exact kr) | ((with_reducible apply zK); exact rfl; exact tf) | ((with_reducible apply zCD); exact rfl) | ((with_reducible apply zCN); exact rfl) | ((with_reducible apply zC); exact rfl) | ((with_reducible refine zX ?_ ?_); exact rfl) | ((with_reducible refine zE (And.intro ?_ ?_)); exact kr) | (with_reducible refine zE ?_) | ((with_reducible apply zP); exact dp) | ((with_reducible apply zN); exact dn) | ((with_reducible apply zA); exact da) | ((with_reducible apply zS); exact ds) | ((with_reducible apply zY); exact rfl; exact rfl; exact tf) | ((with_reducible apply zG); exact rfl; exact rfl; exact tf) | ((with_reducible apply zU); exact rfl; exact rfl) | ((with_reducible apply zD); exact rfl; exact rfl) | ((with_reducible apply zB); exact rfl; exact rfl))))
      refine awp_regionL ?_
      ((refine wpl_run (l1 := [_, _, _, _, _]) rfl ?_ ?_); exact kr; (repeat' (first | (with_reducible first | intro hg | refine mv (by constructor) ?_) | ((with_reducible first | refine zR ?_ ?_ | refine zW mixed ?_ ?_); exact kr) | ((with_reducible apply zK); exact rfl; exact tf) | ((with_reducible apply zCD); exact rfl) | ((with_reducible apply zCN); exact rfl) | ((with_reducible apply zC); exact rfl) | ((with_reducible refine zX ?_ ?_); exact rfl) | ((with_reducible refine zE (And.intro ?_ ?_)); exact kr) | (with_reducible refine zE ?_) | ((with_reducible apply zP); (first | exact o_loadLk (L := PN) (sz := 1) rfl rfl rfl rfl (by rfl) (by exact hb1) (by exact hb2) | exact dp)) | ((with_reducible apply zN); exact dn) | ((with_reducible apply zA); (first | ((apply o_app); (case hx => exact rfl); (case hm => exact rfl); (case hy => exact .own rfl rfl); (case hty => exact rfl); (case hl => solve | exact hlC | rfl); (case hcl => solve | rfl | exact hlC | simp); (case hpos => omega); (case hb => omega); (case hb2 => omega); (case hnew => exact rfl)) | ((apply o_app); (case hx => exact rfl); (case hm => exact rfl); (case hy => exact .sl rfl); (case hty => exact rfl); (case hl => solve | exact hlC | rfl); (case hcl => solve | rfl | exact hlC | simp); (case hpos => omega); (case hb => omega); (case hb2 => omega); (case hnew => exact rfl)) | exact da)) | ((with_reducible apply zS); exact ds) | ((with_reducible apply zY); exact rfl; exact rfl; exact tf) | ((with_reducible apply zG); exact rfl; exact rfl; exact tf) | ((with_reducible apply zU); exact rfl; exact rfl) | ((with_reducible apply zD); exact rfl; exact rfl) | ((with_reducible apply zB); exact rfl; exact rfl))))
      refine wpl_turn (turns_pin 107 107 PN (by rfl) (by rfl) (by rfl) (by rfl) (by kernel_rfl)) fun y => ?_
      ((refine wpl_run (l1 := [_, _]) rfl ?_ ?_); exact kr; (repeat' (first | (with_reducible first | intro hg | refine mv (by constructor) ?_) | ((with_reducible first | refine zR ?_ ?_ | refine zW mixed ?_ ?_); exact kr) | ((with_reducible apply zK); exact rfl; exact tf) | ((with_reducible apply zCD); exact rfl) | ((with_reducible apply zCN); exact rfl) | ((with_reducible apply zC); exact rfl) | ((with_reducible refine zX ?_ ?_); exact rfl) | ((with_reducible refine zE (And.intro ?_ ?_)); exact kr) | (with_reducible refine zE ?_) | ((with_reducible apply zP); exact dp) | ((with_reducible apply zN); exact dn) | ((with_reducible apply zA); exact da) | ((with_reducible apply zS); exact ds) | ((with_reducible apply zY); exact rfl; exact rfl; exact tf) | ((with_reducible apply zG); exact rfl; exact rfl; exact tf) | ((with_reducible apply zU); exact rfl; exact rfl) | ((with_reducible apply zD); exact rfl; exact rfl) | ((with_reducible apply zB); exact rfl; exact rfl))))
      refine wpl_nil ?_
      (repeat' (first | (with_reducible first | intro hg | refine mv (by constructor) ?_) | ((with_reducible first | refine zR ?_ ?_ | refine zW mixed ?_ ?_); exact kr) | ((with_reducible apply zK); exact rfl; exact tf) | ((with_reducible apply zCD); exact rfl) | ((with_reducible apply zCN); exact rfl) | ((with_reducible apply zC); exact rfl) | ((with_reducible refine zX ?_ ?_); exact rfl) | ((with_reducible refine zE (And.intro ?_ ?_)); exact kr) | (with_reducible refine zE ?_) | ((with_reducible apply zP); exact dp) | ((with_reducible apply zN); exact dn) | ((with_reducible apply zA); exact da) | ((with_reducible apply zS); exact ds) | ((with_reducible apply zY); exact rfl; exact rfl; exact tf) | ((with_reducible apply zG); exact rfl; exact rfl; exact tf) | ((with_reducible apply zU); exact rfl; exact rfl) | ((with_reducible apply zD); exact rfl; exact rfl) | ((with_reducible apply zB); exact rfl; exact rfl)))
      exact ⟨k + 1 + 1, y.1.1, y.1.2, ⟨⟨hlt, LkJ.of y⟩, hin2⟩, by omega, (And.intro rfl (And.intro rfl (And.intro rfl (And.intro rfl (And.intro rfl (And.intro rfl (And.intro rfl trivial))))))), (And.intro rfl (And.intro rfl (And.intro rfl (And.intro (congrArg (fun l => some (Blk.mk _ l)) hsC) trivial))))⟩
  obtain rfl : k = dz.length := by omega
  obtain ⟨s, hs⟩ : ∃ s, dz.length = s + 1 := ⟨dz.length - 1, by omega⟩
  obtain ⟨hb1, hb2⟩ := hb.resolve_left (by omega)
  refine awp_cut [(2, .d (isl dz)), (3, .ptr 3 0), (4, .ptr 4 0), (7, .ptr 7 0), (8, .d (I (bigD dz dz.length : Nat))), (9, .d (I (dz.length : Nat))), (PN, linkP b cap 1)] [(3, ⟨24, [rgV c, I den]⟩), (4, ⟨27, prI ((m + 1 : Nat) : Int) w⟩), (7, ⟨35, [.slice c.length (ivs (zer c.length)), linkC b cap dz.length, isl dz]⟩), (PN, ⟨25, llS (rpl c dz.length)⟩)] (And.intro rfl (And.intro rfl (And.intro rfl (And.intro rfl (And.intro rfl (And.intro rfl (And.intro (by rw [hs]; rfl) trivial))))))) (And.intro rfl (And.intro rfl (And.intro (by rw [hs]; rfl) (And.intro (by rw [hs]; rfl) trivial)))) ?_
  refine awp_turn (turns_unlink 7 1 PN (by rfl) (by rfl) (by rfl) (by rfl) (by rfl) (by decide) hb1 hb2) fun _ => ?_
  have e2 := rpl_sl c dz.length
  refine awp_cut [(2, .d (isl dz)), (3, .ptr 3 0), (4, .ptr 4 0), (7, .ptr 7 0), (8, .d (I (bigD dz dz.length : Nat))), (9, .d (I (dz.length : Nat)))] [(3, ⟨24, [rgV c, I den]⟩), (4, ⟨27, prI ((m + 1 : Nat) : Int) w⟩), (7, ⟨35, [.slice c.length (ivs (zer c.length)), llV (rpl c dz.length), isl dz]⟩)] (And.intro rfl (And.intro rfl (And.intro rfl (And.intro rfl (And.intro rfl (And.intro rfl trivial)))))) (And.intro rfl (And.intro rfl (And.intro (congrArg (fun v => some (Blk.mk 35 [.slice c.length (ivs (zer c.length)), v, isl dz])) e2) trivial))) ?_
  have hin' : ∀ t, t < dz.length → (nth dz t).natAbs ≤ 100 := fun t ht => by
    have k1 := inR_true.1 (hin t ht)
    omega
  clear hb hk hlt hin e2 hb1 hb2
  have r := runOf_ok c den (zer c.length) (rpl c dz.length) dz (rnE_los g2 zer_sx g6 hin')
  have hst : DV.slice c.length (ivs (zer c.length)) = isl (zer c.length) := by
    show _ = DV.slice (zer c.length).length _
    rw [lst_length]
  have hmb : bigD dz dz.length ≤ 100 := bigD_bnd hin'
  have hcv : ∀ t, t < dz.length → vlt den (rpl c dz.length) dz (zer c.length) t = sumQ (fun k => ((nth dz k : Int) : Rat) * rsp den (losL c) (t - k)) (t + 1) := fun t ht => run_conv (zer_nth _) ht
  have wcp := qcopy_A c den (by omega)
  have wpr := copyProof_A ((m + 1 : Nat) : Int) w (by omega)
  obtain ⟨gf, ge, wg, hge⟩ : ∃ gf ge, AC Try.prog 16 [loV c den, .agg (prI ((m + 1 : Nat) : Int) w)] (.tuple [F2 gf, I ge]) ∧ (ge = 19 ∨ ge = 8 ∨ (ge = 0 ∧ ∃ G : Rat, gf = qF G ∧ smQ G = true ∧ ∀ t, t < dz.length → absR (vlt den (rpl c dz.length) dz (zer c.length) t) ≤ G * (((bigD dz dz.length : Nat) : Int) : Rat))) := by
    cases hn : decide (nrm c den (m + 1) w < 1)
    · exact ⟨_, _, gainBound_no c den g2 g3 (m + 1) w hp hn, .inl rfl⟩
    · have hn := of_decide_eq_true hn
      have wg := gainBound_yes c den g2 g3 m w hp hn
      cases hG : smQ (gnB den (losL c) w c.length (m + 1) (nrm c den (m + 1) w))
      · exact ⟨_, _, wg, .inr (.inl (by unfold frQ; rw [hG]; rfl))⟩
      · exact ⟨_, _, wg, .inr (.inr ⟨by unfold frQ; rw [hG]; rfl, _, by unfold frQ; rw [hG]; rfl, hG, fun t ht => run_gain hL hp hn (zer_nth _) (fun k hk => bigD_le dz hk) ht⟩)⟩
  have wsv := responseOf_ok c den g2 g3 s (by omega)
  rw [show ((s : Nat) : Int) = (dz.length : Int) - 1 by omega] at wsv
  have q1 := rnV_cases den (rpl c dz.length) dz (zer c.length)
  have hrl : (rpl c dz.length).length = dz.length := List.length_replicate ..
  generalize bigD dz dz.length = M at *
  generalize rpl c dz.length = rs at *
  have r : AC Try.prog 15 [loV c den, .agg [DV.slice c.length (ivs (zer c.length)), llV rs, isl dz]] (.tuple [frV (rnV den rs dz (zer c.length)).1, I (rnV den rs dz (zer c.length)).2]) := by
    rw [hst]; exact r
  clear hst hp hwl g1 g5 g7
  have q2 := rsV_cases c den s
  rcases q1 with ⟨q1, s1⟩ | q1
  rotate_left
  · clear hcv
    rcases q2 with ⟨k1, k2⟩ | k1 <;> rcases hge with hge | hge | ⟨hge, -⟩ <;> (rw [q1] at r; rw [k1] at wsv; dsimp only at r wsv; clear q1 k1; subst hge)
    (repeat' (first | (with_reducible first | intro hg | refine mv (by constructor) ?_) | ((with_reducible first | refine zR ?_ ?_ | refine zW mixed ?_ ?_); exact kr) | ((with_reducible apply zK); exact rfl; exact tf) | ((with_reducible apply zCD); exact rfl) | ((with_reducible apply zCN); exact rfl) | ((with_reducible apply zC); exact rfl) | ((with_reducible refine zX ?_ ?_); exact rfl) | ((with_reducible refine zE (And.intro ?_ ?_)); exact kr) | (with_reducible refine zE ?_) | ((with_reducible apply zP); (first | exact dp | exact oc rfl (wcp) | exact oc rfl (wpr) | exact oc rfl (r) | exact oc rfl (wsv) | exact oc rfl (wg))) | ((with_reducible apply zN); exact dn) | ((with_reducible apply zA); exact da) | ((with_reducible apply zS); exact ds) | ((with_reducible apply zY); exact rfl; exact rfl; exact tf) | ((with_reducible apply zG); exact rfl; exact rfl; exact tf) | ((with_reducible apply zU); exact rfl; exact rfl) | ((with_reducible apply zD); exact rfl; exact rfl) | ((with_reducible apply zB); exact rfl; exact rfl)))
    all_goals (((with_reducible first | apply q_retR | apply q_retN); exact rl); rfl)
  rw [q1] at r
  dsimp only at r
  have a1 : (outF den rs dz (zer c.length) rs.length).length = dz.length := (outF_len ..).trans hrl
  have n1 : ∀ t, t < dz.length → (outF den rs dz (zer c.length) rs.length).getD t rg0 = qF (vlt den rs dz (zer c.length) t) := fun t ht => outF_get (by omega)
  clear q1
  generalize outF den rs dz (zer c.length) rs.length = A at *
  rcases q2 with ⟨k1, k2⟩ | k1
  rotate_left
  focus
    rw [k1] at wsv
    dsimp only at wsv
    clear k1
    rcases hge with hge | hge | ⟨hge, G, hgf, hG, hle⟩
    (repeat' ((fail_if_success (with_reducible show AWp _ _ (.region 39 _ _) _ _)); (first | (with_reducible first | intro hg | refine mv (by constructor) ?_) | ((with_reducible first | refine zR ?_ ?_ | refine zW mixed ?_ ?_); exact kr) | ((with_reducible apply zK); exact rfl; exact tf) | ((with_reducible apply zCD); exact rfl) | ((with_reducible apply zCN); exact rfl) | ((with_reducible apply zC); exact rfl) | ((with_reducible refine zX ?_ ?_); exact rfl) | ((with_reducible refine zE (And.intro ?_ ?_)); exact kr) | (with_reducible refine zE ?_) | ((with_reducible apply zP); (first | exact dp | exact oc rfl (wcp) | exact oc rfl (wpr) | exact oc rfl (r) | exact oc rfl (wsv) | exact oc rfl (wg))) | ((with_reducible apply zN); exact dn) | ((with_reducible apply zA); exact da) | ((with_reducible apply zS); exact ds) | ((with_reducible apply zY); exact rfl; exact rfl; exact tf) | ((with_reducible apply zG); exact rfl; exact rfl; exact tf) | ((with_reducible apply zU); exact rfl; exact rfl) | ((with_reducible apply zD); exact rfl; exact rfl) | ((with_reducible apply zB); exact rfl; exact rfl))))
    all_goals refine awp_cut [(8, .d (I (M : Nat))), (14, .d (frV A)), (15, .d (I 0)), (16, .ptr 16 0), (17, .d (I ge))] [(16, ⟨47, frC gf⟩)] (And.intro rfl (And.intro rfl (And.intro rfl (And.intro rfl (And.intro rfl trivial))))) (And.intro rfl trivial) ?_
  rotate_left 3
  focus
    rw [k1] at wsv
    dsimp only at wsv
    have hH : ((1, 1) :: (List.range s).map (fun t => qF (rsp den (losL c) (t + 1)))).length = dz.length := by rw [hs]; simp
    have nH : ∀ t, t < dz.length → ((1, 1) :: (List.range s).map (fun t => qF (rsp den (losL c) (t + 1)))).getD t rg0 = qF (rsp den (losL c) t) := fun t ht => rsH_get (by omega)
    have hSS : ∀ t, t < dz.length → ∀ n, n ≤ t + 1 → RatS 10000 (sumQ (fun k => ((nth dz k : Int) : Rat) * rsp den (losL c) (t - k)) n) := fun t ht n hn => (sum_S6 fun k hk => (int_ratS (by have := hin' k (by omega); omega)).mul (smQ_S (k2 (t - k) (by omega)))).mono (kR6_le (by omega))
    clear k1
    generalize (1, 1) :: (List.range s).map (fun t => qF (rsp den (losL c) (t + 1))) = H at *
    rcases hge with hge | hge | ⟨hge, G, hgf, hG, hle⟩
    (repeat' (first | (with_reducible first | intro hg | refine mv (by constructor) ?_) | ((with_reducible first | refine zR ?_ ?_ | refine zW mixed ?_ ?_); exact kr) | ((with_reducible apply zK); exact rfl; exact tf) | ((with_reducible apply zCD); exact rfl) | ((with_reducible apply zCN); exact rfl) | ((with_reducible apply zC); exact rfl) | ((with_reducible refine zX ?_ ?_); exact rfl) | ((with_reducible refine zE (And.intro ?_ ?_)); exact kr) | (with_reducible refine zE ?_) | ((with_reducible apply zP); (first | exact dp | exact oc rfl (wcp) | exact oc rfl (wpr) | exact oc rfl (r) | exact oc rfl (wsv) | exact oc rfl (wg))) | ((with_reducible apply zN); exact dn) | ((with_reducible apply zA); exact da) | ((with_reducible apply zS); exact ds) | ((with_reducible apply zY); exact rfl; exact rfl; exact tf) | ((with_reducible apply zG); exact rfl; exact rfl; exact tf) | ((with_reducible apply zU); exact rfl; exact rfl) | ((with_reducible apply zD); exact rfl; exact rfl) | ((with_reducible apply zB); exact rfl; exact rfl)))
    all_goals
      refine awp_loopL (α := Nat) (fun t => [(2, .d (isl dz)), (8, .d (I (M : Nat))), (12, .d (frV H)), (14, .d (frV A)), (15, .d (I 0)), (16, .ptr 16 0), (17, .d (I ge)), (18, .d (I t))]) (fun _ => [(16, ⟨47, frC gf⟩)]) (fun t => t ≤ dz.length) (fun t => dz.length - t) 0 (Nat.zero_le _) (And.intro rfl (And.intro rfl (And.intro rfl (And.intro rfl (And.intro rfl (And.intro rfl (And.intro rfl (And.intro rfl trivial)))))))) (And.intro rfl trivial) fun t ht => ?_
      by_cases htl : t < dz.length
      rotate_left
      focus
        (repeat' ((fail_if_success (with_reducible show AWp _ _ (.region 39 _ _) _ _)); (first | (with_reducible first | intro hg | refine mv (by constructor) ?_) | ((with_reducible first | refine zR ?_ ?_ | refine zW mixed ?_ ?_); exact kr) | ((with_reducible apply zK); exact rfl; exact tf) | ((with_reducible apply zCD); exact rfl) | ((with_reducible apply zCN); exact rfl) | ((with_reducible apply zC); exact rfl) | ((with_reducible refine zX ?_ ?_); exact rfl) | ((with_reducible refine zE (And.intro ?_ ?_)); exact kr) | (with_reducible refine zE ?_) | ((with_reducible apply zP); exact dp) | ((with_reducible apply zN); exact dn) | ((with_reducible apply zA); exact da) | ((with_reducible apply zS); exact ds) | ((with_reducible apply zY); exact rfl; exact rfl; exact tf) | ((with_reducible apply zG); exact rfl; exact rfl; exact tf) | ((with_reducible apply zU); exact rfl; exact rfl) | ((with_reducible apply zD); exact rfl; exact rfl) | ((with_reducible apply zB); exact rfl; exact rfl))))
        refine awp_cut [(8, .d (I (M : Nat))), (14, .d (frV A)), (15, .d (I 0)), (16, .ptr 16 0), (17, .d (I ge))] [(16, ⟨47, frC gf⟩)] (And.intro rfl (And.intro rfl (And.intro rfl (And.intro rfl (And.intro rfl trivial))))) (And.intro rfl trivial) ?_
      rotate_left
      · have p1 := s1 t (by omega)
        have p2 := k2 t (by omega)
        have u1 := bisLow_q _ p1
        have u2 := bisSmall_q _ p1
        have u3 := bisLow_q _ p2
        have u4 := bisSmall_q _ p2
        have f1 := from_q _ p1
        have hS := hSS t htl
        have u5 := ratioCmp_A (hS (t + 1) (Nat.le_refl _)) ((smQ_S p1).mono (by decide))
        rw [← hcv t htl, cmpR_self] at u5
        rw [← n1 t htl] at u1 u2 f1
        rw [← nH t htl] at u3 u4
        have wz0 := ratioInt_A 0 ⟨by decide, by decide⟩
        clear wcp wpr r wsv wg
        (repeat' (first | (with_reducible first | intro hg | refine mv (by constructor) ?_) | ((with_reducible first | refine zR ?_ ?_ | refine zW mixed ?_ ?_); exact kr) | ((with_reducible apply zK); exact rfl; exact tf) | ((with_reducible apply zCD); exact rfl) | ((with_reducible apply zCN); exact rfl) | ((with_reducible apply zC); exact rfl) | ((with_reducible refine zX ?_ ?_); exact rfl) | ((with_reducible refine zE (And.intro ?_ ?_)); exact kr) | (with_reducible refine zE ?_) | ((with_reducible apply zP); (first | exact o_indexF rg0 frC_len (by decide) rfl rfl (by omega) rfl | exact dp | exact oc rfl (u1) | exact oc rfl (u2) | exact oc rfl (u3) | exact oc rfl (u4) | exact oc rfl (wz0))) | ((with_reducible apply zN); exact dn) | ((with_reducible apply zA); exact da) | ((with_reducible apply zS); exact ds) | ((with_reducible apply zY); exact rfl; exact rfl; exact tf) | ((with_reducible apply zG); exact rfl; exact rfl; exact tf) | ((with_reducible apply zU); exact rfl; exact rfl) | ((with_reducible apply zD); exact rfl; exact rfl) | ((with_reducible apply zB); exact rfl; exact rfl)))
        refine awp_loopL (α := Nat) (fun k => [(2, .d (isl dz)), (8, .d (I (M : Nat))), (12, .d (frV H)), (14, .d (frV A)), (15, .d (I 0)), (16, .ptr 16 0), (17, .d (I ge)), (18, .d (I t)), (19, .ptr 19 0), (20, .d (I k))]) (fun k => [(16, ⟨47, frC gf⟩), (19, ⟨55, ratC (sumQ (fun k => ((nth dz k : Int) : Rat) * rsp den (losL c) (t - k)) k)⟩)]) (fun k => k ≤ t + 1) (fun k => t + 1 - k) 0 (Nat.zero_le _) (And.intro rfl (And.intro rfl (And.intro rfl (And.intro rfl (And.intro rfl (And.intro rfl (And.intro rfl (And.intro rfl (And.intro rfl (And.intro rfl trivial)))))))))) (And.intro rfl (And.intro rfl trivial)) fun k hk => ?_
        by_cases hkt : k < t + 1
        · have hd1 := hin' k (by omega)
          have p3 := k2 (t - k) (by omega)
          have v1 := ratioInt_A (nth dz k) ⟨by omega, by omega⟩
          have v2 := from_q _ p3
          have hI : RatS 3 ((nth dz k : Int) : Rat) := int_ratS (by omega)
          have v3 := ratioMul_A (hI.mono (by decide)) ((smQ_S p3).mono (by decide))
          have v4 := ratioAdd_A (hS k (by omega)) ((hI.mul (smQ_S p3)).mono (by decide))
          have hsu : sumQ (fun k => ((nth dz k : Int) : Rat) * rsp den (losL c) (t - k)) (k + 1) = sumQ (fun k => ((nth dz k : Int) : Rat) * rsp den (losL c) (t - k)) k + ((nth dz k : Int) : Rat) * rsp den (losL c) (t - k) := rfl
          rw [← hsu] at v4
          rw [← nH (t - k) (by omega)] at v2
          have htk : (t : Int) - k = ((t - k : Nat) : Int) := by omega
          clear hsu hI p3 p1 p2 u1 u2 u3 u4 u5 f1 hS hSS n1 nH s1 k2 hcv wz0 hin'
          generalize rsp den (losL c) (t - k) = v at *
          (repeat' (first | (with_reducible first | intro hg | refine mv (by constructor) ?_) | ((with_reducible first | refine zR ?_ ?_ | refine zW mixed ?_ ?_); exact kr) | ((with_reducible apply zK); exact rfl; exact tf) | ((with_reducible apply zCD); exact rfl) | ((with_reducible apply zCN); exact rfl) | ((with_reducible apply zC); exact rfl) | ((with_reducible refine zX ?_ ?_); exact rfl) | ((with_reducible refine zE (And.intro ?_ ?_)); exact kr) | (with_reducible refine zE ?_) | ((with_reducible apply zP); (first | exact o_indexF rg0 (j := t - k) frC_len (by decide) rfl (congrArg (fun n : Int => AV.d (I n)) htk) (by omega) rfl | exact o_indexI (xs := dz) (j := k) rfl rfl (by omega) (by omega) | exact dp | exact oc rfl (v1) | exact oc rfl (v2) | exact oc rfl (v3) | exact oc rfl (v4))) | ((with_reducible apply zN); exact dn) | ((with_reducible apply zA); exact da) | ((with_reducible apply zS); exact ds) | ((with_reducible apply zY); exact rfl; exact rfl; exact tf) | ((with_reducible apply zG); exact rfl; exact rfl; exact tf) | ((with_reducible apply zU); exact rfl; exact rfl) | ((with_reducible apply zD); exact rfl; exact rfl) | ((with_reducible apply zB); exact rfl; exact rfl)))
          exact ⟨k + 1, hkt, by omega, (And.intro rfl (And.intro rfl (And.intro rfl (And.intro rfl (And.intro rfl (And.intro rfl (And.intro rfl (And.intro rfl (And.intro rfl (And.intro rfl trivial)))))))))), (And.intro rfl (And.intro rfl trivial))⟩
        obtain rfl : k = t + 1 := by omega
        rw [← hcv t htl] at *
        clear hS hSS n1 nH s1 k2 hcv wz0 hin' u1 u2 u3 u4 p1 p2
        generalize vlt den rs dz (zer c.length) t = v at *
        (repeat' (first | (with_reducible first | intro hg | refine mv (by constructor) ?_) | ((with_reducible first | refine zR ?_ ?_ | refine zW mixed ?_ ?_); exact kr) | ((with_reducible apply zK); exact rfl; exact tf) | ((with_reducible apply zCD); exact rfl) | ((with_reducible apply zCN); exact rfl) | ((with_reducible apply zC); exact rfl) | ((with_reducible refine zX ?_ ?_); exact rfl) | ((with_reducible refine zE (And.intro ?_ ?_)); exact kr) | (with_reducible refine zE ?_) | ((with_reducible apply zP); (first | exact o_indexF rg0 (j := t) frC_len (by decide) rfl rfl (by omega) rfl | exact dp | exact oc rfl (f1) | exact oc rfl (u5))) | ((with_reducible apply zN); exact dn) | ((with_reducible apply zA); exact da) | ((with_reducible apply zS); exact ds) | ((with_reducible apply zY); exact rfl; exact rfl; exact tf) | ((with_reducible apply zG); exact rfl; exact rfl; exact tf) | ((with_reducible apply zU); exact rfl; exact rfl) | ((with_reducible apply zD); exact rfl; exact rfl) | ((with_reducible apply zB); exact rfl; exact rfl)))
        exact ⟨t + 1, htl, by omega, (And.intro rfl (And.intro rfl (And.intro rfl (And.intro rfl (And.intro rfl (And.intro rfl (And.intro rfl (And.intro rfl trivial)))))))), (And.intro rfl trivial)⟩
  all_goals clear wcp wpr wsv wg r hcv
  all_goals first | ((repeat' (first | (with_reducible first | intro hg | refine mv (by constructor) ?_) | ((with_reducible first | refine zR ?_ ?_ | refine zW mixed ?_ ?_); exact kr) | ((with_reducible apply zK); exact rfl; exact tf) | ((with_reducible apply zCD); exact rfl) | ((with_reducible apply zCN); exact rfl) | ((with_reducible apply zC); exact rfl) | ((with_reducible refine zX ?_ ?_); exact rfl) | ((with_reducible refine zE (And.intro ?_ ?_)); exact kr) | (with_reducible refine zE ?_) | ((with_reducible apply zP); exact dp) | ((with_reducible apply zN); exact dn) | ((with_reducible apply zA); exact da) | ((with_reducible apply zS); exact ds) | ((with_reducible apply zY); exact rfl; exact rfl; exact tf) | ((with_reducible apply zG); exact rfl; exact rfl; exact tf) | ((with_reducible apply zU); exact rfl; exact rfl) | ((with_reducible apply zD); exact rfl; exact rfl) | ((with_reducible apply zB); exact rfl; exact rfl))); ((with_reducible first | apply q_retR | apply q_retN); exact rl); rfl) | skip
  all_goals
    have w1 := bisLow_q _ hG
    have w2 := bisSmall_q _ hG
    have w4 := from_q _ hG
    have u4 := ratioInt_A ((M : Nat) : Int) ⟨by omega, by omega⟩
    have hMS : RatS 3 (((M : Nat) : Int) : Rat) := int_ratS (by omega)
    have u5 := ratioMul_A ((smQ_S hG).mono (by decide)) (hMS.mono (by decide))
    have hGS := ((smQ_S hG).mul hMS).mono (l := 10000) (by decide)
    subst hgf
    (repeat' (first | (with_reducible first | intro hg | refine mv (by constructor) ?_) | ((with_reducible first | refine zR ?_ ?_ | refine zW mixed ?_ ?_); exact kr) | ((with_reducible apply zK); exact rfl; exact tf) | ((with_reducible apply zCD); exact rfl) | ((with_reducible apply zCN); exact rfl) | ((with_reducible apply zC); exact rfl) | ((with_reducible refine zX ?_ ?_); exact rfl) | ((with_reducible refine zE (And.intro ?_ ?_)); exact kr) | (with_reducible refine zE ?_) | ((with_reducible apply zP); (first | exact dp | exact oc rfl (w1) | exact oc rfl (w2) | exact oc rfl (w4) | exact oc rfl (u4) | exact oc rfl (u5))) | ((with_reducible apply zN); exact dn) | ((with_reducible apply zA); exact da) | ((with_reducible apply zS); exact ds) | ((with_reducible apply zY); exact rfl; exact rfl; exact tf) | ((with_reducible apply zG); exact rfl; exact rfl; exact tf) | ((with_reducible apply zU); exact rfl; exact rfl) | ((with_reducible apply zD); exact rfl; exact rfl) | ((with_reducible apply zB); exact rfl; exact rfl)))
    refine awp_loopL (α := Nat) (fun t => [(14, .d (frV A)), (21, .ptr 21 0), (22, .d (I t))]) (fun _ => [(21, ⟨55, ratC (G * (((M : Nat) : Int) : Rat))⟩)]) (fun t => t ≤ dz.length) (fun t => dz.length - t) 0 (Nat.zero_le _) (And.intro rfl (And.intro rfl (And.intro rfl trivial))) (And.intro rfl trivial) fun t ht => ?_
    by_cases htl : t < dz.length
    · have p1 := s1 t (by omega)
      have u2 : AC Try.prog 12 [I (qF (vlt den rs dz (zer c.length) t)).1] (I ((vlt den rs dz (zer c.length) t).num.natAbs : Int)) := sizeN_q _ p1
      have u3 : AC Try.prog 25 [I ((vlt den rs dz (zer c.length) t).num.natAbs : Int), I (qF (vlt den rs dz (zer c.length) t)).2] (ratV (absR (vlt den rs dz (zer c.length) t))) := ofSize_q _ p1
      have u6 := ratioCmp_A ((absR_S (smQ_S p1)).mono (by decide)) hGS
      have hlt := cmpR_le (hle t htl)
      rw [← n1 t htl] at u2 u3
      clear n1 p1 s1 hle hGS
      generalize vlt den rs dz (zer c.length) t = v at *
      generalize G * (((M : Nat) : Int) : Rat) = L at *
      generalize cmpR (absR v) L = z at *
      (repeat' (first | (with_reducible first | intro hg | refine mv (by constructor) ?_) | ((with_reducible first | refine zR ?_ ?_ | refine zW mixed ?_ ?_); exact kr) | ((with_reducible apply zK); exact rfl; exact tf) | ((with_reducible apply zCD); exact rfl) | ((with_reducible apply zCN); exact rfl) | ((with_reducible apply zC); exact rfl) | ((with_reducible refine zX ?_ ?_); exact rfl) | ((with_reducible refine zE (And.intro ?_ ?_)); exact kr) | (with_reducible refine zE ?_) | ((with_reducible apply zP); (first | exact o_indexF rg0 frC_len (by decide) rfl rfl (by omega) rfl | exact dp | exact oc rfl (u2) | exact oc rfl (u3) | exact oc rfl (u6))) | ((with_reducible apply zN); exact dn) | ((with_reducible apply zA); exact da) | ((with_reducible apply zS); exact ds) | ((with_reducible apply zY); exact rfl; exact rfl; exact tf) | ((with_reducible apply zG); exact rfl; exact rfl; exact tf) | ((with_reducible apply zU); exact rfl; exact rfl) | ((with_reducible apply zD); exact rfl; exact rfl) | ((with_reducible apply zB); exact rfl; exact rfl)))
      exact ⟨t + 1, htl, by omega, (And.intro rfl (And.intro rfl (And.intro rfl trivial))), (And.intro rfl trivial)⟩
    · (repeat' (first | (with_reducible first | intro hg | refine mv (by constructor) ?_) | ((with_reducible first | refine zR ?_ ?_ | refine zW mixed ?_ ?_); exact kr) | ((with_reducible apply zK); exact rfl; exact tf) | ((with_reducible apply zCD); exact rfl) | ((with_reducible apply zCN); exact rfl) | ((with_reducible apply zC); exact rfl) | ((with_reducible refine zX ?_ ?_); exact rfl) | ((with_reducible refine zE (And.intro ?_ ?_)); exact kr) | (with_reducible refine zE ?_) | ((with_reducible apply zP); exact dp) | ((with_reducible apply zN); exact dn) | ((with_reducible apply zA); exact da) | ((with_reducible apply zS); exact ds) | ((with_reducible apply zY); exact rfl; exact rfl; exact tf) | ((with_reducible apply zG); exact rfl; exact rfl; exact tf) | ((with_reducible apply zU); exact rfl; exact rfl) | ((with_reducible apply zD); exact rfl; exact rfl) | ((with_reducible apply zB); exact rfl; exact rfl)))
      ((with_reducible first | apply q_retR | apply q_retN); exact rl)
      rfl

end Go.Proofs.Ytiabcffcbhlbiaa
