/- The roll that is printed on the strip: the walk, and what the law answers. -/
import Derived.Test.YtagpmpbmfjaiiaaGreatDoorTC
import Derived.Test.YtagpmpbmfjaiiaaGreatDoorSm
set_option linter.unusedVariables false
set_option linter.unusedSimpArgs false
namespace Go.Proofs.YtagpmpbmfjaiiaaGreatDoor
open Go.RowKit
set_option maxRecDepth 20000
set_option maxHeartbeats 8000000

theorem flatShownP : AC Tryz.prog 23 [] (B true) := by
  have h1 := ints_same [2] (by decide)
  refine ac_body Tryz.func23 rfl (by kernel_rfl) fun w0 ok => ?_; show AWp _ (ctx0 w0 ok _) _ (ARet _ _ _) (entry _)
  (repeat' (first | (with_reducible first | intro hg | refine mv (by constructor) ?_) | ((with_reducible first | refine zR ?_ ?_ | refine zW mixed ?_ ?_); exact kr) | ((with_reducible apply zK); exact rfl; exact tf) | ((with_reducible apply zCD); exact rfl) | ((with_reducible apply zCN); exact rfl) | ((with_reducible apply zC); exact rfl) | ((with_reducible refine zX ?_ ?_); exact rfl) | ((with_reducible refine zE (And.intro ?_ ?_)); exact kr) | (with_reducible refine zE ?_) | ((with_reducible apply zP); (first | exact o_buildSlD rfl (by decide) rfl | exact dp | exact oc rfl (rules_A) | exact oc rfl (ex_best) | exact oc rfl (ex_bound) | exact oc rfl (h1))) | ((with_reducible apply zN); exact dn) | ((with_reducible apply zA); exact da) | ((with_reducible apply zS); exact ds) | ((with_reducible apply zY); exact rfl; exact rfl; exact tf) | ((with_reducible apply zG); exact rfl; exact rfl; exact tf) | ((with_reducible apply zU); exact rfl; exact rfl) | ((with_reducible apply zD); exact rfl; exact rfl) | ((with_reducible apply zB); exact rfl; exact rfl)))
  ((with_reducible first | apply q_retR | apply q_retN); exact rl)
  rfl
theorem bceil_A (n d : Int) (hn : -1000000000 ≤ n ∧ n ≤ 1000000000) (hd : 0 < d) (hd2 : d ≤ 1000000000) : AC Tryz.prog 34 [I n, I d] (I (cl n d)) := by
  have hf := bfloor_A (-n) d ⟨by omega, by omega⟩ hd (by omega)
  have hb := cl_bnd hn hd
  unfold cl at *
  generalize -n / d = q at *
  refine ac_body Tryz.func34 rfl (by kernel_rfl) fun w0 ok => ?_; show AWp _ (ctx0 w0 ok _) _ (ARet _ _ _) (entry _)
  (repeat' (first | (with_reducible first | intro hg | refine mv (by constructor) ?_) | ((with_reducible first | refine zR ?_ ?_ | refine zW mixed ?_ ?_); exact kr) | ((with_reducible apply zK); exact rfl; exact tf) | ((with_reducible apply zCD); exact rfl) | ((with_reducible apply zCN); exact rfl) | ((with_reducible apply zC); exact rfl) | ((with_reducible refine zX ?_ ?_); exact rfl) | ((with_reducible refine zE (And.intro ?_ ?_)); exact kr) | (with_reducible refine zE ?_) | ((with_reducible apply zP); (first | exact dp | exact oc rfl (hf))) | ((with_reducible apply zN); exact dn) | ((with_reducible apply zA); exact da) | ((with_reducible apply zS); exact ds) | ((with_reducible apply zY); exact rfl; exact rfl; exact tf) | ((with_reducible apply zG); exact rfl; exact rfl; exact tf) | ((with_reducible apply zU); exact rfl; exact rfl) | ((with_reducible apply zD); exact rfl; exact rfl) | ((with_reducible apply zB); exact rfl; exact rfl)))
  ((with_reducible first | apply q_retR | apply q_retN); exact rl)
  rfl
/-- The numbers of the printed profile. -/
def prG (g : Int) (W : List (Int × Int)) (i : Nat) : Int := g + cl (htL (100 * (i : Int)) W).1.1 (htL (100 * (i : Int)) W).1.2
theorem prMid (c W : List (Int × Int)) (l : List Strp) (p : List Int) (g : Int) (hl : StOk l) (h20 : l.length ≤ 20) (hp : prE p = 0) (hgg : 30000 ≤ g ∧ g ≤ 60000) (hP : PrOk W p.length) (hW : W.length ≤ 1000) (w0 : World) (ok : Nat → Prop) :
    AWp Tryz.prog (ctx0 w0 ok Tryz.f4.ntmps) (dropSq 9 (Tryz.f4.body.getD .skip)) (ARet Tryz.prog Tryz.f4.results.toList (B true)) ⟨frL [(1, .ptr 1 0), (3, .d (I p.length)), (5, .d (frS W))], memL [(1, ⟨50, dayC c l p g⟩)]⟩ := by
  obtain ⟨n3, n2, n9, _⟩ := prE_ok hp
  have tail := fun w0 ok => prTail c l p g hl h20 hp hgg w0 ok
  have cw := copyContour_A W (by omega)
  have ht := fun t => heightAt_A W t hP.ok
  have hz := hP.z
  clear hP hl h20 hp
  generalize hn : p.length = n at *
  show AWp _ _ (.seq _ _) _ _
  (repeat' (first | (with_reducible first | intro hg | refine mv (by constructor) ?_) | ((with_reducible first | refine zR ?_ ?_ | refine zW mixed ?_ ?_); exact kr) | ((with_reducible apply zK); exact rfl; exact tf) | ((with_reducible apply zCD); exact rfl) | ((with_reducible apply zCN); exact rfl) | ((with_reducible apply zC); exact rfl) | ((with_reducible refine zX ?_ ?_); exact rfl) | ((with_reducible refine zE (And.intro ?_ ?_)); exact kr) | (with_reducible refine zE ?_) | ((with_reducible apply zP); exact dp) | ((with_reducible apply zN); exact dn) | ((with_reducible apply zA); exact da) | ((with_reducible apply zS); exact ds) | ((with_reducible apply zY); exact rfl; exact rfl; exact tf) | ((with_reducible apply zG); exact rfl; exact rfl; exact tf) | ((with_reducible apply zU); exact rfl; exact rfl) | ((with_reducible apply zD); exact rfl; exact rfl) | ((with_reducible apply zB); exact rfl; exact rfl)))
  refine awp_loopL (α := Nat) (fun k => [(1, .ptr 1 0), (3, .d (I n)), (5, .d (frS W)), (9, ownS 162 k), (10, .d (I k))]) (fun k => (1, ⟨50, dayC c l p g⟩) :: ownM 162 3 (ivs (lst (prG g W) k)) k) (fun k => k ≤ n) (fun k => n - k) 0 (Nat.zero_le _) (And.intro rfl (And.intro rfl (And.intro rfl (And.intro rfl (And.intro rfl trivial))))) (And.intro rfl trivial) fun k hk => ?_
  by_cases hlt : k < n
  · obtain ⟨z1, z2, z3⟩ := hz k hlt
    have h1 := ht (100 * (k : Int))
    have hs : ∀ v, v = g + cl (htL (100 * (k : Int)) W).1.1 (htL (100 * (k : Int)) W).1.2 → some (Blk.mk 3 (ivs (lst (prG g W) k) ++ [I v])) = some ⟨3, ivs (lst (prG g W) (k + 1))⟩ := fun v hv => blk_snoc 3 (prG g W) k hv
    rw [z1] at h1
    clear hz ht tail z1
    generalize (htL (100 * (k : Int)) W).1 = f at *
    have hs := hs _ rfl
    obtain ⟨r1, r2⟩ := smF_bnd z2 z3
    have c1 := bIsLowest_A f ⟨⟨by omega, by omega⟩, ⟨by omega, by omega⟩⟩
    rw [z2] at c1
    have c2 := bIsSmall_A f r2.1
    rw [z3] at c2
    have c3 := bceil_A f.1 f.2 r1 r2.1 r2.2
    have hb := cl_bnd r1 r2.1
    generalize cl f.1 f.2 = u at *
    rcases k with _ | k
    · (repeat' (first | (with_reducible first | intro hg | refine mv (by constructor) ?_) | ((with_reducible first | refine zR ?_ ?_ | refine zW mixed ?_ ?_); exact kr) | ((with_reducible apply zK); exact rfl; exact tf) | ((with_reducible apply zCD); exact rfl) | ((with_reducible apply zCN); exact rfl) | ((with_reducible apply zC); exact rfl) | ((with_reducible refine zX ?_ ?_); exact rfl) | ((with_reducible refine zE (And.intro ?_ ?_)); exact kr) | (with_reducible refine zE ?_) | ((with_reducible apply zP); (first | exact dp | exact oc rfl (cw) | exact oc rfl (h1) | exact oc rfl (c1) | exact oc rfl (c2) | exact oc rfl (c3))) | ((with_reducible apply zN); exact dn) | ((with_reducible apply zA); exact da) | ((with_reducible apply zS); exact ds) | ((with_reducible apply zY); exact rfl; exact rfl; exact tf) | ((with_reducible apply zG); exact rfl; exact rfl; exact tf) | ((with_reducible apply zU); exact rfl; exact rfl) | ((with_reducible apply zD); exact rfl; exact rfl) | ((with_reducible apply zB); exact rfl; exact rfl)))
      exact ⟨0 + 1, hlt, by omega, (And.intro rfl (And.intro rfl (And.intro rfl (And.intro rfl (And.intro rfl trivial))))), (And.intro rfl (And.intro (hs) trivial))⟩
    · (repeat' (first | (with_reducible first | intro hg | refine mv (by constructor) ?_) | ((with_reducible first | refine zR ?_ ?_ | refine zW mixed ?_ ?_); exact kr) | ((with_reducible apply zK); exact rfl; exact tf) | ((with_reducible apply zCD); exact rfl) | ((with_reducible apply zCN); exact rfl) | ((with_reducible apply zC); exact rfl) | ((with_reducible refine zX ?_ ?_); exact rfl) | ((with_reducible refine zE (And.intro ?_ ?_)); exact kr) | (with_reducible refine zE ?_) | ((with_reducible apply zP); (first | exact dp | exact oc rfl (cw) | exact oc rfl (h1) | exact oc rfl (c1) | exact oc rfl (c2) | exact oc rfl (c3))) | ((with_reducible apply zN); exact dn) | ((with_reducible apply zA); exact da) | ((with_reducible apply zS); exact ds) | ((with_reducible apply zY); exact rfl; exact rfl; exact tf) | ((with_reducible apply zG); exact rfl; exact rfl; exact tf) | ((with_reducible apply zU); exact rfl; exact rfl) | ((with_reducible apply zD); exact rfl; exact rfl) | ((with_reducible apply zB); exact rfl; exact rfl)))
      exact ⟨k + 1 + 1, hlt, by omega, (And.intro rfl (And.intro rfl (And.intro rfl (And.intro rfl (And.intro rfl trivial))))), (And.intro rfl (And.intro (hs) trivial))⟩
  obtain rfl : k = n := by omega
  refine awp_own 9 162 (t := 3) (prG g W) rfl (fun k hk => by rw [hk]; rfl) ?_
  have hal : (lst (prG g W) k).length = k := lst_length _ _
  clear hz ht cw
  generalize lst (prG g W) k = a at *
  have hcp := refPr_A a (by omega)
  by_cases he : prE a = 0
  rotate_left
  · (repeat' (first | (with_reducible first | intro hg | refine mv (by constructor) ?_) | ((with_reducible first | refine zR ?_ ?_ | refine zW mixed ?_ ?_); exact kr) | ((with_reducible apply zK); exact rfl; exact tf) | ((with_reducible apply zCD); exact rfl) | ((with_reducible apply zCN); exact rfl) | ((with_reducible apply zC); exact rfl) | ((with_reducible refine zX ?_ ?_); exact rfl) | ((with_reducible refine zE (And.intro ?_ ?_)); exact kr) | (with_reducible refine zE ?_) | ((with_reducible apply zP); (first | exact dp | exact oc rfl (hcp))) | ((with_reducible apply zN); exact dn) | ((with_reducible apply zA); exact da) | ((with_reducible apply zS); exact ds) | ((with_reducible apply zY); exact rfl; exact rfl; exact tf) | ((with_reducible apply zG); exact rfl; exact rfl; exact tf) | ((with_reducible apply zU); exact rfl; exact rfl) | ((with_reducible apply zD); exact rfl; exact rfl) | ((with_reducible apply zB); exact rfl; exact rfl)))
    ((with_reducible first | apply q_retR | apply q_retN); exact rl)
    rfl
  have hb := (prE_ok he).2.2.2
  have hi : ∀ v ∈ a, I64 v := fun v hv => by have := hb v hv; exact ⟨by omega, by omega⟩
  have cpy := copyInts_A a (by omega)
  have fp := formatProfile_A a (by omega) hi
  have pf := parse_fmtP a he
  have si := ints_same a (by omega)
  have co := crownOf_ok a he
  have wo := wedgeOf_ok a he
  have rc := refCrown_A a he
  have b0 := hb _ (nth_mem (xs := a) (k := 0) (by omega))
  have b1 := hb _ (nth_mem (xs := a) (k := a.length - 1) (by omega))
  have e2 : ((k : Int) - 1).toNat = a.length - 1 := by omega
  rw [← e2] at wo b1
  rw [he] at hcp
  clear he hb hi hlt
  generalize fmtL a = s at *
  generalize crownP a = cr at *
  (repeat' ((fail_if_success (with_reducible show AWp _ _ (.seq (.region 34 _ _) _) _ _)); (first | (with_reducible first | intro hg | refine mv (by constructor) ?_) | ((with_reducible first | refine zR ?_ ?_ | refine zW mixed ?_ ?_); exact kr) | ((with_reducible apply zK); exact rfl; exact tf) | ((with_reducible apply zCD); exact rfl) | ((with_reducible apply zCN); exact rfl) | ((with_reducible apply zC); exact rfl) | ((with_reducible refine zX ?_ ?_); exact rfl) | ((with_reducible refine zE (And.intro ?_ ?_)); exact kr) | (with_reducible refine zE ?_) | ((with_reducible apply zP); (first | exact o_indexI (j := 0) (xs := a) rfl rfl (by omega) rfl | exact dp | exact oc rfl (hcp) | exact oc rfl (cpy) | exact oc rfl (fp) | exact oc rfl (pf) | exact oc rfl (si) | exact oc rfl (co) | exact oc rfl (wo) | exact oc rfl (rc))) | ((with_reducible apply zN); exact dn) | ((with_reducible apply zA); exact da) | ((with_reducible apply zS); exact ds) | ((with_reducible apply zY); exact rfl; exact rfl; exact tf) | ((with_reducible apply zG); exact rfl; exact rfl; exact tf) | ((with_reducible apply zU); exact rfl; exact rfl) | ((with_reducible apply zD); exact rfl; exact rfl) | ((with_reducible apply zB); exact rfl; exact rfl))))
  all_goals first | (exfalso; simp at hg; done) | exact absurd rfl hg | skip
  refine awp_weaken (le_of (l := [(1, .ptr 1 0), (3, .d (I k))]) (m := [(1, ⟨50, dayC c l p g⟩)]) (And.intro rfl (And.intro rfl trivial)) (And.intro rfl trivial)) ?_
  exact tail w0 ok
theorem topPrinted_A (c : List (Int × Int)) (l : List Strp) (p : List Int) (g : Int) (hc : c.length ≤ 140737488355328) (hl : l.length ≤ 140737488355328) (hp : p.length ≤ 140737488355328) : AC Tryz.prog 4 [.agg (dayC c l p g)] (B true) := by
  have aw := flatShownP
  have ce := contourErr_A c hc
  have pe := refPr_A p hp
  have wg := bwithin_A g 30000 60000
  by_cases q1 : (10 : Int) < (c.length : Int)
  · clear ce pe wg
    refine ac_body Tryz.func4 rfl (by kernel_rfl) fun w0 ok => ?_; show AWp _ (ctx0 w0 ok _) _ (ARet _ _ _) (entry _)
    (repeat' (first | (with_reducible first | intro hg | refine mv (by constructor) ?_) | ((with_reducible first | refine zR ?_ ?_ | refine zW mixed ?_ ?_); exact kr) | ((with_reducible apply zK); exact rfl; exact tf) | ((with_reducible apply zCD); exact rfl) | ((with_reducible apply zCN); exact rfl) | ((with_reducible apply zC); exact rfl) | ((with_reducible refine zX ?_ ?_); exact rfl) | ((with_reducible refine zE (And.intro ?_ ?_)); exact kr) | (with_reducible refine zE ?_) | ((with_reducible apply zP); (first | exact dp | exact oc rfl (aw))) | ((with_reducible apply zN); exact dn) | ((with_reducible apply zA); exact da) | ((with_reducible apply zS); exact ds) | ((with_reducible apply zY); exact rfl; exact rfl; exact tf) | ((with_reducible apply zG); exact rfl; exact rfl; exact tf) | ((with_reducible apply zU); exact rfl; exact rfl) | ((with_reducible apply zD); exact rfl; exact rfl) | ((with_reducible apply zB); exact rfl; exact rfl)))
    ((with_reducible first | apply q_retR | apply q_retN); exact rl)
    rfl
  by_cases q2 : (contE c).2 = 0
  rotate_left
  · clear pe wg
    generalize (contE c).2 = e at *
    refine ac_body Tryz.func4 rfl (by kernel_rfl) fun w0 ok => ?_; show AWp _ (ctx0 w0 ok _) _ (ARet _ _ _) (entry _)
    (repeat' (first | (with_reducible first | intro hg | refine mv (by constructor) ?_) | ((with_reducible first | refine zR ?_ ?_ | refine zW mixed ?_ ?_); exact kr) | ((with_reducible apply zK); exact rfl; exact tf) | ((with_reducible apply zCD); exact rfl) | ((with_reducible apply zCN); exact rfl) | ((with_reducible apply zC); exact rfl) | ((with_reducible refine zX ?_ ?_); exact rfl) | ((with_reducible refine zE (And.intro ?_ ?_)); exact kr) | (with_reducible refine zE ?_) | ((with_reducible apply zP); (first | exact dp | exact oc rfl (aw) | exact oc rfl (ce))) | ((with_reducible apply zN); exact dn) | ((with_reducible apply zA); exact da) | ((with_reducible apply zS); exact ds) | ((with_reducible apply zY); exact rfl; exact rfl; exact tf) | ((with_reducible apply zG); exact rfl; exact rfl; exact tf) | ((with_reducible apply zU); exact rfl; exact rfl) | ((with_reducible apply zD); exact rfl; exact rfl) | ((with_reducible apply zB); exact rfl; exact rfl)))
    ((with_reducible first | apply q_retR | apply q_retN); exact rl)
    rfl
  rw [q2] at ce
  by_cases q3 : (20 : Int) < (l.length : Int)
  · clear pe wg
    refine ac_body Tryz.func4 rfl (by kernel_rfl) fun w0 ok => ?_; show AWp _ (ctx0 w0 ok _) _ (ARet _ _ _) (entry _)
    (repeat' (first | (with_reducible first | intro hg | refine mv (by constructor) ?_) | ((with_reducible first | refine zR ?_ ?_ | refine zW mixed ?_ ?_); exact kr) | ((with_reducible apply zK); exact rfl; exact tf) | ((with_reducible apply zCD); exact rfl) | ((with_reducible apply zCN); exact rfl) | ((with_reducible apply zC); exact rfl) | ((with_reducible refine zX ?_ ?_); exact rfl) | ((with_reducible refine zE (And.intro ?_ ?_)); exact kr) | (with_reducible refine zE ?_) | ((with_reducible apply zP); (first | exact dp | exact oc rfl (aw) | exact oc rfl (ce))) | ((with_reducible apply zN); exact dn) | ((with_reducible apply zA); exact da) | ((with_reducible apply zS); exact ds) | ((with_reducible apply zY); exact rfl; exact rfl; exact tf) | ((with_reducible apply zG); exact rfl; exact rfl; exact tf) | ((with_reducible apply zU); exact rfl; exact rfl) | ((with_reducible apply zD); exact rfl; exact rfl) | ((with_reducible apply zB); exact rfl; exact rfl)))
    ((with_reducible first | apply q_retR | apply q_retN); exact rl)
    rfl
  by_cases q4 : prE p = 0
  rotate_left
  · clear wg
    refine ac_body Tryz.func4 rfl (by kernel_rfl) fun w0 ok => ?_; show AWp _ (ctx0 w0 ok _) _ (ARet _ _ _) (entry _)
    (repeat' (first | (with_reducible first | intro hg | refine mv (by constructor) ?_) | ((with_reducible first | refine zR ?_ ?_ | refine zW mixed ?_ ?_); exact kr) | ((with_reducible apply zK); exact rfl; exact tf) | ((with_reducible apply zCD); exact rfl) | ((with_reducible apply zCN); exact rfl) | ((with_reducible apply zC); exact rfl) | ((with_reducible refine zX ?_ ?_); exact rfl) | ((with_reducible refine zE (And.intro ?_ ?_)); exact kr) | (with_reducible refine zE ?_) | ((with_reducible apply zP); (first | exact dp | exact oc rfl (aw) | exact oc rfl (ce) | exact oc rfl (pe))) | ((with_reducible apply zN); exact dn) | ((with_reducible apply zA); exact da) | ((with_reducible apply zS); exact ds) | ((with_reducible apply zY); exact rfl; exact rfl; exact tf) | ((with_reducible apply zG); exact rfl; exact rfl; exact tf) | ((with_reducible apply zU); exact rfl; exact rfl) | ((with_reducible apply zD); exact rfl; exact rfl) | ((with_reducible apply zB); exact rfl; exact rfl)))
    ((with_reducible first | apply q_retR | apply q_retN); exact rl)
    rfl
  rw [q4] at pe
  cases q5 : inR g 30000 60000
  · rw [q5] at wg
    refine ac_body Tryz.func4 rfl (by kernel_rfl) fun w0 ok => ?_; show AWp _ (ctx0 w0 ok _) _ (ARet _ _ _) (entry _)
    (repeat' (first | (with_reducible first | intro hg | refine mv (by constructor) ?_) | ((with_reducible first | refine zR ?_ ?_ | refine zW mixed ?_ ?_); exact kr) | ((with_reducible apply zK); exact rfl; exact tf) | ((with_reducible apply zCD); exact rfl) | ((with_reducible apply zCN); exact rfl) | ((with_reducible apply zC); exact rfl) | ((with_reducible refine zX ?_ ?_); exact rfl) | ((with_reducible refine zE (And.intro ?_ ?_)); exact kr) | (with_reducible refine zE ?_) | ((with_reducible apply zP); (first | exact dp | exact oc rfl (aw) | exact oc rfl (ce) | exact oc rfl (pe) | exact oc rfl (wg))) | ((with_reducible apply zN); exact dn) | ((with_reducible apply zA); exact da) | ((with_reducible apply zS); exact ds) | ((with_reducible apply zY); exact rfl; exact rfl; exact tf) | ((with_reducible apply zG); exact rfl; exact rfl; exact tf) | ((with_reducible apply zU); exact rfl; exact rfl) | ((with_reducible apply zD); exact rfl; exact rfl) | ((with_reducible apply zB); exact rfl; exact rfl)))
    ((with_reducible first | apply q_retR | apply q_retN); exact rl)
    rfl
  rw [q5] at wg
  obtain ⟨c2, c10, ck⟩ := contE_ok q2
  by_cases q6 : (c.getD 0 f0).1 = 0
  rotate_left
  · refine ac_body Tryz.func4 rfl (by kernel_rfl) fun w0 ok => ?_; show AWp _ (ctx0 w0 ok _) _ (ARet _ _ _) (entry _)
    (repeat' (first | (with_reducible first | intro hg | refine mv (by constructor) ?_) | ((with_reducible first | refine zR ?_ ?_ | refine zW mixed ?_ ?_); exact kr) | ((with_reducible apply zK); exact rfl; exact tf) | ((with_reducible apply zCD); exact rfl) | ((with_reducible apply zCN); exact rfl) | ((with_reducible apply zC); exact rfl) | ((with_reducible refine zX ?_ ?_); exact rfl) | ((with_reducible refine zE (And.intro ?_ ?_)); exact kr) | (with_reducible refine zE ?_) | ((with_reducible apply zP); (first | exact o_indexF f0 (j := 0) (xs := c) frC_len (by decide) rfl rfl (by omega) rfl | exact dp | exact oc rfl (aw) | exact oc rfl (ce) | exact oc rfl (pe) | exact oc rfl (wg))) | ((with_reducible apply zN); exact dn) | ((with_reducible apply zA); exact da) | ((with_reducible apply zS); exact ds) | ((with_reducible apply zY); exact rfl; exact rfl; exact tf) | ((with_reducible apply zG); exact rfl; exact rfl; exact tf) | ((with_reducible apply zU); exact rfl; exact rfl) | ((with_reducible apply zD); exact rfl; exact rfl) | ((with_reducible apply zB); exact rfl; exact rfl)))
    ((with_reducible first | apply q_retR | apply q_retN); exact rl)
    rfl
  have hk1 : IntKind.i64.wrap ((c.length : Int) - 1) = ((c.length - 1 : Nat) : Int) := by
    rw [show (c.length : Int) - 1 = ((c.length - 1 : Nat) : Int) by omega]
    exact wr (by omega)
  by_cases q7 : (c.getD (c.length - 1) f0).1 < 800
  · refine ac_body Tryz.func4 rfl (by kernel_rfl) fun w0 ok => ?_; show AWp _ (ctx0 w0 ok _) _ (ARet _ _ _) (entry _)
    (repeat' (first | (with_reducible first | intro hg | refine mv (by constructor) ?_) | ((with_reducible first | refine zR ?_ ?_ | refine zW mixed ?_ ?_); exact kr) | ((with_reducible apply zK); exact rfl; exact tf) | ((with_reducible apply zCD); exact rfl) | ((with_reducible apply zCN); exact rfl) | ((with_reducible apply zC); exact rfl) | ((with_reducible refine zX ?_ ?_); exact rfl) | ((with_reducible refine zE (And.intro ?_ ?_)); exact kr) | (with_reducible refine zE ?_) | ((with_reducible apply zP); (first | exact o_sub rfl rfl hk1 | exact o_indexF f0 (j := 0) (xs := c) frC_len (by decide) rfl rfl (by omega) rfl | exact o_indexF f0 (j := c.length - 1) (xs := c) frC_len (by decide) rfl rfl (by omega) rfl | exact dp | exact oc rfl (aw) | exact oc rfl (ce) | exact oc rfl (pe) | exact oc rfl (wg))) | ((with_reducible apply zN); exact dn) | ((with_reducible apply zA); exact da) | ((with_reducible apply zS); exact ds) | ((with_reducible apply zY); exact rfl; exact rfl; exact tf) | ((with_reducible apply zG); exact rfl; exact rfl; exact tf) | ((with_reducible apply zU); exact rfl; exact rfl) | ((with_reducible apply zD); exact rfl; exact rfl) | ((with_reducible apply zB); exact rfl; exact rfl)))
    ((with_reducible first | apply q_retR | apply q_retN); exact rl)
    rfl
  obtain ⟨n3, n2, n9, _⟩ := prE_ok q4
  refine ac_body Tryz.func4 rfl (by kernel_rfl) fun w0 ok => ?_; show AWp _ (ctx0 w0 ok _) _ (ARet _ _ _) (entry _)
  (repeat' (first | (with_reducible first | intro hg | refine mv (by constructor) ?_) | ((with_reducible first | refine zR ?_ ?_ | refine zW mixed ?_ ?_); exact kr) | ((with_reducible apply zK); exact rfl; exact tf) | ((with_reducible apply zCD); exact rfl) | ((with_reducible apply zCN); exact rfl) | ((with_reducible apply zC); exact rfl) | ((with_reducible refine zX ?_ ?_); exact rfl) | ((with_reducible refine zE (And.intro ?_ ?_)); exact kr) | (with_reducible refine zE ?_) | ((with_reducible apply zP); (first | exact o_sub rfl rfl hk1 | exact o_indexF f0 (j := 0) (xs := c) frC_len (by decide) rfl rfl (by omega) rfl | exact o_indexF f0 (j := c.length - 1) (xs := c) frC_len (by decide) rfl rfl (by omega) rfl | exact dp | exact oc rfl (aw) | exact oc rfl (ce) | exact oc rfl (pe) | exact oc rfl (wg))) | ((with_reducible apply zN); exact dn) | ((with_reducible apply zA); exact da) | ((with_reducible apply zS); exact ds) | ((with_reducible apply zY); exact rfl; exact rfl; exact tf) | ((with_reducible apply zG); exact rfl; exact rfl; exact tf) | ((with_reducible apply zU); exact rfl; exact rfl) | ((with_reducible apply zD); exact rfl; exact rfl) | ((with_reducible apply zB); exact rfl; exact rfl)))
  clear aw ce pe wg hk1
  refine awp_loopL (α := Nat) (fun k => [(1, .ptr 1 0), (3, .d (I p.length)), (4, .d (I k))]) (fun _ => [(1, ⟨50, dayC c l p g⟩)]) (fun k => k ≤ c.length ∧ ∀ i, i < k → -300 ≤ (c.getD i f0).2 ∧ (c.getD i f0).2 ≤ 300) (fun k => c.length - k) 0 ⟨Nat.zero_le _, fun i h => absurd h (by omega)⟩ (And.intro rfl (And.intro rfl (And.intro rfl trivial))) (And.intro rfl trivial) fun k ⟨hk, hJ⟩ => ?_
  by_cases hlt : k < c.length
  · have w1 := bwithin_A (c.getD k f0).2 (-300) 300
    cases q : inR (c.getD k f0).2 (-300) 300
    · rw [q] at w1
      (repeat' (first | (with_reducible first | intro hg | refine mv (by constructor) ?_) | ((with_reducible first | refine zR ?_ ?_ | refine zW mixed ?_ ?_); exact kr) | ((with_reducible apply zK); exact rfl; exact tf) | ((with_reducible apply zCD); exact rfl) | ((with_reducible apply zCN); exact rfl) | ((with_reducible apply zC); exact rfl) | ((with_reducible refine zX ?_ ?_); exact rfl) | ((with_reducible refine zE (And.intro ?_ ?_)); exact kr) | (with_reducible refine zE ?_) | ((with_reducible apply zP); (first | exact o_indexF f0 (j := k) (xs := c) frC_len (by decide) rfl rfl (by omega) rfl | exact dp | exact oc rfl (w1))) | ((with_reducible apply zN); exact dn) | ((with_reducible apply zA); exact da) | ((with_reducible apply zS); exact ds) | ((with_reducible apply zY); exact rfl; exact rfl; exact tf) | ((with_reducible apply zG); exact rfl; exact rfl; exact tf) | ((with_reducible apply zU); exact rfl; exact rfl) | ((with_reducible apply zD); exact rfl; exact rfl) | ((with_reducible apply zB); exact rfl; exact rfl)))
      ((with_reducible first | apply q_retR | apply q_retN); exact rl)
      rfl
    · rw [q] at w1
      have hJ' : ∀ i, i < k + 1 → -300 ≤ (c.getD i f0).2 ∧ (c.getD i f0).2 ≤ 300 := fun i hi => by
        by_cases e : i = k
        · rw [e]; exact inR_iff.1 q
        · exact hJ i (by omega)
      clear hJ q q6 q7
      (repeat' (first | (with_reducible first | intro hg | refine mv (by constructor) ?_) | ((with_reducible first | refine zR ?_ ?_ | refine zW mixed ?_ ?_); exact kr) | ((with_reducible apply zK); exact rfl; exact tf) | ((with_reducible apply zCD); exact rfl) | ((with_reducible apply zCN); exact rfl) | ((with_reducible apply zC); exact rfl) | ((with_reducible refine zX ?_ ?_); exact rfl) | ((with_reducible refine zE (And.intro ?_ ?_)); exact kr) | (with_reducible refine zE ?_) | ((with_reducible apply zP); (first | exact o_indexF f0 (j := k) (xs := c) frC_len (by decide) rfl rfl (by omega) rfl | exact dp | exact oc rfl (w1))) | ((with_reducible apply zN); exact dn) | ((with_reducible apply zA); exact da) | ((with_reducible apply zS); exact ds) | ((with_reducible apply zY); exact rfl; exact rfl; exact tf) | ((with_reducible apply zG); exact rfl; exact rfl; exact tf) | ((with_reducible apply zU); exact rfl; exact rfl) | ((with_reducible apply zD); exact rfl; exact rfl) | ((with_reducible apply zB); exact rfl; exact rfl)))
      exact ⟨k + 1, ⟨hlt, hJ'⟩, by omega, (And.intro rfl (And.intro rfl (And.intro rfl trivial))), (And.intro rfl trivial)⟩
  obtain rfl : k = c.length := by omega
  have hh : ∀ pt ∈ c, -300 ≤ pt.2 ∧ pt.2 ≤ 300 := fun pt hpt => by
    obtain ⟨i, hi, rfl⟩ := List.mem_iff_getElem.1 hpt
    have := hJ i hi
    rw [List.getD_eq_getElem?_getD, List.getElem?_eq_getElem hi] at this
    exact this
  have hwr : wrnE c l = 0 := by
    unfold wrnE
    rw [q2, decide_eq_true (by omega)]; rfl
  have cc := copyContour_A c (by omega)
  have cs := copyStrips_A l (by omega)
  have wo := worn_A c l hwr
  have rw' := refWorn_A c l hwr
  clear hJ hwr hlt
  by_cases he : (wornL l c).2 = 0
  · have hst := wornL_bad l c he
    rw [wornL_ok l c hst] at wo rw'
    have wo : AC Tryz.prog 26 [frS c, stS l] (.tuple [frS (wearL l c), I 0]) := wo
    have rw' : AC Tryz.prog 29 [frS c, stS l] (.tuple [frS (wearL l c), I 0]) := rw'
    have hWl := wearL_len l c
    have sm := sameContour_A (wearL l c) (by omega)
    have hP := prOk (n := p.length) q2 hst (by omega) hh q6 (by omega) n9
    have mid := fun w0 ok => prMid c (wearL l c) l p g hst (by omega) q4 (inR_iff.1 q5) hP (by omega) w0 ok
    clear hP hst he hh q2 q4 q5 q6 q7 ck
    generalize wearL l c = W at *
    (repeat' ((fail_if_success (with_reducible show AWp _ _ (.seq (.region 17 _ _) _) _ _)); (first | (with_reducible first | intro hg | refine mv (by constructor) ?_) | ((with_reducible first | refine zR ?_ ?_ | refine zW mixed ?_ ?_); exact kr) | ((with_reducible apply zK); exact rfl; exact tf) | ((with_reducible apply zCD); exact rfl) | ((with_reducible apply zCN); exact rfl) | ((with_reducible apply zC); exact rfl) | ((with_reducible refine zX ?_ ?_); exact rfl) | ((with_reducible refine zE (And.intro ?_ ?_)); exact kr) | (with_reducible refine zE ?_) | ((with_reducible apply zP); (first | exact dp | exact oc rfl (cc) | exact oc rfl (cs) | exact oc rfl (wo) | exact oc rfl (rw') | exact oc rfl (sm))) | ((with_reducible apply zN); exact dn) | ((with_reducible apply zA); exact da) | ((with_reducible apply zS); exact ds) | ((with_reducible apply zY); exact rfl; exact rfl; exact tf) | ((with_reducible apply zG); exact rfl; exact rfl; exact tf) | ((with_reducible apply zU); exact rfl; exact rfl) | ((with_reducible apply zD); exact rfl; exact rfl) | ((with_reducible apply zB); exact rfl; exact rfl))))
    refine awp_weaken (le_of (l := [(1, .ptr 1 0), (3, .d (I p.length)), (5, .d (frS W))]) (m := [(1, ⟨50, dayC c l p g⟩)]) (And.intro rfl (And.intro rfl (And.intro rfl trivial))) (And.intro rfl trivial)) ?_
    exact mid w0 ok
  · have hb0 : ((wornL l c).2 == 0) = false := beq_eq_false_iff_ne.2 he
    have hw2 : wrnR (wornL l c) = .tuple [nilV, I (wornL l c).2] := by unfold wrnR; rw [hb0]; rfl
    rw [hw2] at wo rw'
    clear hb0 hw2 hh q2 q4 q5 q6 q7 ck
    generalize (wornL l c).2 = e at *
    (repeat' (first | (with_reducible first | intro hg | refine mv (by constructor) ?_) | ((with_reducible first | refine zR ?_ ?_ | refine zW mixed ?_ ?_); exact kr) | ((with_reducible apply zK); exact rfl; exact tf) | ((with_reducible apply zCD); exact rfl) | ((with_reducible apply zCN); exact rfl) | ((with_reducible apply zC); exact rfl) | ((with_reducible refine zX ?_ ?_); exact rfl) | ((with_reducible refine zE (And.intro ?_ ?_)); exact kr) | (with_reducible refine zE ?_) | ((with_reducible apply zP); (first | exact dp | exact oc rfl (cc) | exact oc rfl (cs) | exact oc rfl (wo) | exact oc rfl (rw') | exact oc rfl (sameContour_nil))) | ((with_reducible apply zN); exact dn) | ((with_reducible apply zA); exact da) | ((with_reducible apply zS); exact ds) | ((with_reducible apply zY); exact rfl; exact rfl; exact tf) | ((with_reducible apply zG); exact rfl; exact rfl; exact tf) | ((with_reducible apply zU); exact rfl; exact rfl) | ((with_reducible apply zD); exact rfl; exact rfl) | ((with_reducible apply zB); exact rfl; exact rfl)))
    ((with_reducible first | apply q_retR | apply q_retN); exact rl)
    rfl

end Go.Proofs.YtagpmpbmfjaiiaaGreatDoor
