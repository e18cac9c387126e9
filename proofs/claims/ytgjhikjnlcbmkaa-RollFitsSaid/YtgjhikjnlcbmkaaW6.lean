/- Merged: XBu XBv. -/
import Derived.Test.YtgjhikjnlcbmkaaW5
import Derived.Test.YtgjhikjnlcbmkaaMo
set_option linter.unusedVariables false
set_option linter.unusedSimpArgs false
/- Walks: missing marks, causes (package roll). -/
namespace Go.Proofs.Ytgjhikjnlcbmkaa
open Go.RowKit
set_option maxRecDepth 20000
set_option maxHeartbeats 4000000

theorem missC_A (a n t : Int) (xs : List Int) (ha : a.natAbs ≤ 1000000000) (hn : n.natAbs ≤ 1000000000) (ht : 0 ≤ t) (ht2 : t ≤ 10000) : AC Try.prog 88 [I a, .ref [I n], .ref [isl xs, I t]] (B (inR (a - n) (-(2 * t)) (2 * t))) := by
  refine ac_body Try.func88 rfl (by kernel_rfl) fun w0 ok => ?_; show AWp _ (ctx0 w0 ok _) _ (ARet _ _ _) (entry _)
  (repeat' (first | (with_reducible first | intro hg | refine mv (by constructor) ?_) | ((with_reducible first | refine zR ?_ ?_ | refine zW mixed ?_ ?_); exact kr) | ((with_reducible apply zK); exact rfl; exact tf) | ((with_reducible apply zCD); exact rfl) | ((with_reducible apply zCN); exact rfl) | ((with_reducible apply zC); exact rfl) | ((with_reducible refine zX ?_ ?_); exact rfl) | ((with_reducible refine zE (And.intro ?_ ?_)); exact kr) | (with_reducible refine zE ?_) | ((with_reducible apply zP); (first | exact dp | exact oc rfl (isSized_A _ _ ⟨by omega, by omega⟩))) | ((with_reducible apply zN); exact dn) | ((with_reducible apply zA); exact da) | ((with_reducible apply zS); exact ds) | ((with_reducible apply zY); exact rfl; exact rfl; exact tf) | ((with_reducible apply zG); exact rfl; exact rfl; exact tf) | ((with_reducible apply zU); exact rfl; exact rfl) | ((with_reducible apply zD); exact rfl; exact rfl) | ((with_reducible apply zB); exact rfl; exact rfl)))
  ((with_reducible first | apply q_retR | apply q_retN); exact rl)
  rfl
theorem misCnt_le {xs : List Int} {t r ph : Int} (hk : MarksOk xs t) (hr : 1 ≤ r) : misCnt xs r ph ≤ 1000001 := by
  obtain ⟨k1, k2, k3, k4, k5, _⟩ := hk
  have h0 := k5 _ (nth_mem (l := xs) (k := 0) (by omega))
  have he := k5 _ (nth_mem (l := xs) (k := xs.length - 1) (by omega))
  have hm := Int.emod_nonneg (ph - nth xs 0) (show r ≠ 0 by omega)
  unfold misCnt
  split
  · have h1 : (nth xs (xs.length - 1) - misN xs r ph) / r ≤ nth xs (xs.length - 1) - misN xs r ph := Int.ediv_le_self _ (by omega)
    unfold misN at *
    omega
  · omega
theorem misTo_len (xs : List Int) (t r ph : Int) (k : Nat) : (misTo xs t r ph k).length ≤ k := by
  unfold misTo
  exact Nat.le_trans (List.length_filter_le _ _) (Nat.le_of_eq (lst_length _ _))
theorem misN_bnd {xs : List Int} {t r ph : Int} (hk : MarksOk xs t) (hr : 1 ≤ r) (hr2 : r ≤ 10000) : 0 ≤ misN xs r ph ∧ misN xs r ph ≤ 1010000 := by
  obtain ⟨k1, k2, k3, k4, k5, _⟩ := hk
  have h0 := k5 _ (nth_mem (l := xs) (k := 0) (by omega))
  have hm := Int.emod_nonneg (ph - nth xs 0) (show r ≠ 0 by omega)
  have hm2 := Int.emod_lt_of_pos (ph - nth xs 0) (show 0 < r by omega)
  unfold misN; omega
theorem missing_A (xs : List Int) (t r ph : Int) (hk : MarksOk xs t) (hr : 1 ≤ r) (hr2 : r ≤ 10000) (hph : ph.natAbs ≤ 1000000) :
    AC Try.prog 62 [marksV xs t, I r, I ph] (isl (misL xs t r ph)) := by
  obtain ⟨k1, k2, k3, k4, k5, _⟩ := id hk
  have h0 := k5 _ (nth_mem (l := xs) (k := 0) (by omega))
  have h0' : 0 ≤ nth xs (0 : Int).toNat ∧ nth xs (0 : Int).toNat ≤ 1000000 := h0
  have he := k5 _ (nth_mem (l := xs) (k := xs.length - 1) (by omega))
  have hnb := misN_bnd (ph := ph) hk hr hr2
  have hcl := misCnt_le (ph := ph) hk hr
  have hlast : ((xs.length : Int) - 1).toNat = xs.length - 1 := by omega
  rw [← hlast] at he
  have hm := Int.emod_nonneg (ph - nth xs 0) (show r ≠ 0 by omega)
  have hm2 := Int.emod_lt_of_pos (ph - nth xs 0) (show 0 < r by omega)
  have hm' : 0 ≤ (ph - nth xs (0 : Int).toNat) % r ∧ (ph - nth xs (0 : Int).toNat) % r < r := ⟨hm, hm2⟩
  have hn0 : nth xs 0 + (ph - nth xs 0) % r = misN xs r ph + ((0 : Nat) : Int) * r := by unfold misN; rw [Int.natCast_zero, Int.zero_mul, Int.add_zero]
  refine ac_body Try.func62 rfl (by kernel_rfl) fun w0 ok => ?_; show AWp _ (ctx0 w0 ok _) _ (ARet _ _ _) (entry _)
  (repeat' (first | (with_reducible first | intro hg | refine mv (by constructor) ?_) | ((with_reducible first | refine zR ?_ ?_ | refine zW mixed ?_ ?_); exact kr) | ((with_reducible apply zK); exact rfl; exact tf) | ((with_reducible apply zCD); exact rfl) | ((with_reducible apply zCN); exact rfl) | ((with_reducible apply zC); exact rfl) | ((with_reducible refine zX ?_ ?_); exact rfl) | ((with_reducible refine zE (And.intro ?_ ?_)); exact kr) | (with_reducible refine zE ?_) | ((with_reducible apply zP); (first | exact o_indexI (j := 0) rfl rfl (by omega) (by omega) | exact dp | exact oc rfl (remainder_A _ _ (by omega) (by omega) (by omega)))) | ((with_reducible apply zN); exact dn) | ((with_reducible apply zA); exact da) | ((with_reducible apply zS); exact ds) | ((with_reducible apply zY); exact rfl; exact rfl; exact tf) | ((with_reducible apply zG); exact rfl; exact rfl; exact tf) | ((with_reducible apply zU); exact rfl; exact rfl) | ((with_reducible apply zD); exact rfl; exact rfl) | ((with_reducible apply zB); exact rfl; exact rfl)))
  refine awp_freeze 3 (blk := ⟨63, [isl xs, I t]⟩) rfl ?_
  refine awp_loopL (α := Nat × List Int) (fun x => [(1, .d (I r)), (3, .d (.ref [isl xs, I t])), (8, .d (I (nth xs ((xs.length : Int) - 1).toNat))), (9, ownL 46 x.2), (10, .ptr 10 0)])
    (fun x => (10, ⟨3, [I (misN xs r ph + (x.1 : Nat) * r)]⟩) :: ownLM 46 3 x.2) (fun x => x.1 ≤ misCnt xs r ph ∧ x.2 = misTo xs t r ph x.1) (fun x => misCnt xs r ph - x.1) (0, []) ⟨Nat.zero_le _, rfl⟩ (And.intro rfl (And.intro rfl (And.intro rfl (And.intro rfl (And.intro rfl trivial))))) (And.intro (congrArg (fun n => some (Blk.mk _ [I n])) hn0) trivial) fun ⟨i, l⟩ ⟨hi, hl⟩ => ?_
  have hl : l = misTo xs t r ph i := hl
  have hi : i ≤ misCnt xs r ph := hi
  have hiff := misCnt_iff (xs := xs) (ph := ph) (show 0 < r by omega) i
  have hlen := misTo_len xs t r ph i
  rw [← hl] at hlen
  rw [← hlast] at hiff
  have hsucc : misN xs r ph + (i : Int) * r + r = misN xs r ph + ((i + 1 : Nat) : Int) * r := by rw [Int.natCast_add, Int.add_mul, Int.natCast_one, Int.one_mul, Int.add_assoc]
  have hpos : 0 ≤ (i : Int) * r := Int.mul_nonneg (by omega) (by omega)
  by_cases hlt : i < misCnt xs r ph
  · have hle := hiff.2 hlt
    have hts := misTo_succ xs t r ph i
    refine awp_freeze 10 (blk := ⟨3, [I (misN xs r ph + (i : Int) * r)]⟩) rfl ?_
    generalize hN : misN xs r ph + (i : Int) * r = N at *
    have hcon := containsFuncC_A 88 (EntI.eq (P := Try.prog) (f := 88)) [.ref [I N], .ref [isl xs, I t]] (fun a => inR (a - N) (-(2 * t)) (2 * t)) xs (by omega) (fun a ha => missC_A a N t xs (by have := k5 a ha; omega) (by omega) k3 k4)
    cases hfar : misFar xs t N
    · rw [hfar] at hts
      have hany : (xs.any fun a => inR (a - N) (-(2 * t)) (2 * t)) = true := by unfold misFar at hfar; simpa using hfar
      rw [hany] at hcon
      have hl2 : l = misTo xs t r ph (i + 1) := by rw [hts, hl]; simp
      rcases l with _ | ⟨x, l⟩
      · (repeat' (first | (with_reducible first | intro hg | refine mv (by constructor) ?_) | ((with_reducible first | refine zR ?_ ?_ | refine zW mixed ?_ ?_); exact kr) | ((with_reducible apply zK); exact rfl; exact tf) | ((with_reducible apply zCD); exact rfl) | ((with_reducible apply zCN); exact rfl) | ((with_reducible apply zC); exact rfl) | ((with_reducible refine zX ?_ ?_); exact rfl) | ((with_reducible refine zE (And.intro ?_ ?_)); exact kr) | (with_reducible refine zE ?_) | ((with_reducible apply zP); (first | exact dp | exact oc rfl (hcon))) | ((with_reducible apply zN); exact dn) | ((with_reducible apply zA); exact da) | ((with_reducible apply zS); exact ds) | ((with_reducible apply zY); exact rfl; exact rfl; exact tf) | ((with_reducible apply zG); exact rfl; exact rfl; exact tf) | ((with_reducible apply zU); exact rfl; exact rfl) | ((with_reducible apply zD); exact rfl; exact rfl) | ((with_reducible apply zB); exact rfl; exact rfl)))
        exact ⟨(i + 1, []), ⟨hlt, hl2⟩, by show misCnt xs r ph - (i + 1) < misCnt xs r ph - i; omega, (And.intro rfl (And.intro rfl (And.intro rfl (And.intro rfl (And.intro rfl trivial))))), (And.intro (congrArg (fun n => some (Blk.mk _ [I n])) hsucc) trivial)⟩
      · (repeat' (first | (with_reducible first | intro hg | refine mv (by constructor) ?_) | ((with_reducible first | refine zR ?_ ?_ | refine zW mixed ?_ ?_); exact kr) | ((with_reducible apply zK); exact rfl; exact tf) | ((with_reducible apply zCD); exact rfl) | ((with_reducible apply zCN); exact rfl) | ((with_reducible apply zC); exact rfl) | ((with_reducible refine zX ?_ ?_); exact rfl) | ((with_reducible refine zE (And.intro ?_ ?_)); exact kr) | (with_reducible refine zE ?_) | ((with_reducible apply zP); (first | exact dp | exact oc rfl (hcon))) | ((with_reducible apply zN); exact dn) | ((with_reducible apply zA); exact da) | ((with_reducible apply zS); exact ds) | ((with_reducible apply zY); exact rfl; exact rfl; exact tf) | ((with_reducible apply zG); exact rfl; exact rfl; exact tf) | ((with_reducible apply zU); exact rfl; exact rfl) | ((with_reducible apply zD); exact rfl; exact rfl) | ((with_reducible apply zB); exact rfl; exact rfl)))
        exact ⟨(i + 1, x :: l), ⟨hlt, hl2⟩, by show misCnt xs r ph - (i + 1) < misCnt xs r ph - i; omega, (And.intro rfl (And.intro rfl (And.intro rfl (And.intro rfl (And.intro rfl trivial))))), (And.intro (congrArg (fun n => some (Blk.mk _ [I n])) hsucc) (And.intro (rfl) trivial))⟩
    · rw [hfar] at hts
      have hany : (xs.any fun a => inR (a - N) (-(2 * t)) (2 * t)) = false := by unfold misFar at hfar; simpa using hfar
      rw [hany] at hcon
      rcases l with _ | ⟨x, l⟩
      · (repeat' (first | (with_reducible first | intro hg | refine mv (by constructor) ?_) | ((with_reducible first | refine zR ?_ ?_ | refine zW mixed ?_ ?_); exact kr) | ((with_reducible apply zK); exact rfl; exact tf) | ((with_reducible apply zCD); exact rfl) | ((with_reducible apply zCN); exact rfl) | ((with_reducible apply zC); exact rfl) | ((with_reducible refine zX ?_ ?_); exact rfl) | ((with_reducible refine zE (And.intro ?_ ?_)); exact kr) | (with_reducible refine zE ?_) | ((with_reducible apply zP); (first | exact dp | exact oc rfl (hcon))) | ((with_reducible apply zN); exact dn) | ((with_reducible apply zA); exact da) | ((with_reducible apply zS); exact ds) | ((with_reducible apply zY); exact rfl; exact rfl; exact tf) | ((with_reducible apply zG); exact rfl; exact rfl; exact tf) | ((with_reducible apply zU); exact rfl; exact rfl) | ((with_reducible apply zD); exact rfl; exact rfl) | ((with_reducible apply zB); exact rfl; exact rfl)))
        refine ⟨(i + 1, [N]), ⟨hlt, ?_⟩, by show misCnt xs r ph - (i + 1) < misCnt xs r ph - i; omega, (And.intro rfl (And.intro rfl (And.intro rfl (And.intro rfl (And.intro rfl trivial))))), (And.intro (congrArg (fun n => some (Blk.mk _ [I n])) hsucc) (And.intro (rfl) trivial))⟩
        show [N] = misTo xs t r ph (i + 1)
        rw [hts, ← hl]; simp
      · (repeat' (first | (with_reducible first | intro hg | refine mv (by constructor) ?_) | ((with_reducible first | refine zR ?_ ?_ | refine zW mixed ?_ ?_); exact kr) | ((with_reducible apply zK); exact rfl; exact tf) | ((with_reducible apply zCD); exact rfl) | ((with_reducible apply zCN); exact rfl) | ((with_reducible apply zC); exact rfl) | ((with_reducible refine zX ?_ ?_); exact rfl) | ((with_reducible refine zE (And.intro ?_ ?_)); exact kr) | (with_reducible refine zE ?_) | ((with_reducible apply zP); (first | exact dp | exact oc rfl (hcon))) | ((with_reducible apply zN); exact dn) | ((with_reducible apply zA); exact da) | ((with_reducible apply zS); exact ds) | ((with_reducible apply zY); exact rfl; exact rfl; exact tf) | ((with_reducible apply zG); exact rfl; exact rfl; exact tf) | ((with_reducible apply zU); exact rfl; exact rfl) | ((with_reducible apply zD); exact rfl; exact rfl) | ((with_reducible apply zB); exact rfl; exact rfl)))
        refine ⟨(i + 1, x :: (l ++ [N])), ⟨hlt, ?_⟩, by show misCnt xs r ph - (i + 1) < misCnt xs r ph - i; omega, (And.intro rfl (And.intro rfl (And.intro rfl (And.intro (ownL_snoc 46 x l N) (And.intro (rfl) trivial))))), (And.intro (congrArg (fun n => some (Blk.mk _ [I n])) hsucc) (And.intro (blkL_snoc _ x l N) trivial))⟩
        show x :: (l ++ [N]) = misTo xs t r ph (i + 1)
        rw [hts, ← hl]; simp
  · have hle : ¬ misN xs r ph + (i : Int) * r ≤ nth xs ((xs.length : Int) - 1).toNat := fun h => hlt (hiff.1 h)
    have hi2 : i = misCnt xs r ph := by omega
    refine awp_ownL 9 46 (t := 3) l rfl (fun x k hx => by subst hx; rfl) ?_
    (repeat' (first | (with_reducible first | intro hg | refine mv (by constructor) ?_) | ((with_reducible first | refine zR ?_ ?_ | refine zW mixed ?_ ?_); exact kr) | ((with_reducible apply zK); exact rfl; exact tf) | ((with_reducible apply zCD); exact rfl) | ((with_reducible apply zCN); exact rfl) | ((with_reducible apply zC); exact rfl) | ((with_reducible refine zX ?_ ?_); exact rfl) | ((with_reducible refine zE (And.intro ?_ ?_)); exact kr) | (with_reducible refine zE ?_) | ((with_reducible apply zP); exact dp) | ((with_reducible apply zN); exact dn) | ((with_reducible apply zA); exact da) | ((with_reducible apply zS); exact ds) | ((with_reducible apply zY); exact rfl; exact rfl; exact tf) | ((with_reducible apply zG); exact rfl; exact rfl; exact tf) | ((with_reducible apply zU); exact rfl; exact rfl) | ((with_reducible apply zD); exact rfl; exact rfl) | ((with_reducible apply zB); exact rfl; exact rfl)))
    ((with_reducible first | apply q_retR | apply q_retN); exact rl)
    show isl (misL xs t r ph) = isl l
    rw [hl, hi2]; rfl

theorem phLo_bnd {xs : List Int} {t r : Int} {is : List Int} (hr : 0 < r) : 0 ≤ phLo xs t r is ∧ phLo xs t r is < r :=
  ⟨Int.emod_nonneg _ (by omega), Int.emod_lt_of_pos _ hr⟩
def isCs (xs : List Int) (t r : Int) : Bool := phOk xs t r (allM xs) && decide (((misL xs t r (phLo xs t r (allM xs))).length : Int) = 0)
def rndAll (t : Int) (rs : List Int) : Int := fst0 (rs.map (rndErr t))
def csE (xs : List Int) (t : Int) (rs : List Int) : Int := fst0 [fst0 [(chkM xs t).2, unl (decide ((rs.length : Int) ≤ 20)) 8], rndAll t rs]
def csTo (xs : List Int) (t : Int) (rs : List Int) (k : Nat) : List Int := ((List.range k).filter fun i => isCs xs t (nth rs i)).map fun (i : Nat) => (i : Int)
theorem csTo_succ (xs : List Int) (t : Int) (rs : List Int) (k : Nat) : csTo xs t rs (k + 1) = csTo xs t rs k ++ if isCs xs t (nth rs k) then [(k : Int)] else [] := by
  unfold csTo; rw [List.range_succ, List.filter_append, List.map_append]
  congr 1
  simp only [List.filter_cons, List.filter_nil]
  split <;> rfl
theorem csTo_len (xs : List Int) (t : Int) (rs : List Int) (k : Nat) : (csTo xs t rs k).length ≤ k := by
  unfold csTo
  rw [List.length_map]
  exact Nat.le_trans (List.length_filter_le _ _) (by simp)
theorem rndAll_ok {t : Int} {rs : List Int} (h : rndAll t rs = 0) {k : Nat} (hk : k < rs.length) : rndErr t (nth rs k) = 0 :=
  fst0_eq_zero h _ (List.mem_map.2 ⟨_, nth_mem hk, rfl⟩)
theorem causes_A (xs : List Int) (t : Int) (rs : List Int) (hm : xs.length ≤ 140737488355328) (hm2 : rs.length ≤ 140737488355328) (res : DV) (h1 : csE xs t rs ≠ 0 → res = .tuple [nilV, I (csE xs t rs)]) (h2 : csE xs t rs = 0 → res = .tuple [isl (csTo xs t rs rs.length), I 0]) :
    AC Try.prog 20 [marksV xs t, isl rs] res := by
  by_cases he0 : fst0 [(chkM xs t).2, unl (decide ((rs.length : Int) ≤ 20)) 8] = 0
  · obtain ⟨e1, e2⟩ := fst0_cons he0
    have hk := chk_ok e1
    obtain ⟨k1, k2, k3, k4, k5, _⟩ := id hk
    have hrl := of_decide_eq_true (unl_ok (by decide) (fst0_cons e2).1)
    have hcs : csE xs t rs = rndAll t rs := by unfold csE; rw [he0, fst0_zero, fst0_one]
    refine ac_body Try.func20 rfl (by kernel_rfl) fun w0 ok => ?_; show AWp _ (ctx0 w0 ok _) _ (ARet _ _ _) (entry _)
    (repeat' (first | (with_reducible first | intro hg | refine mv (by constructor) ?_) | ((with_reducible first | refine zR ?_ ?_ | refine zW mixed ?_ ?_); exact kr) | ((with_reducible apply zK); exact rfl; exact tf) | ((with_reducible apply zCD); exact rfl) | ((with_reducible apply zCN); exact rfl) | ((with_reducible apply zC); exact rfl) | ((with_reducible refine zX ?_ ?_); exact rfl) | ((with_reducible refine zE (And.intro ?_ ?_)); exact kr) | (with_reducible refine zE ?_) | ((with_reducible apply zP); (first | exact dp | exact oc rfl (marksErr_A _ _ hm) | exact oc rfl (unless_A _ _) | exact oc rfl (first2_A _ _))) | ((with_reducible apply zN); exact dn) | ((with_reducible apply zA); exact da) | ((with_reducible apply zS); exact ds) | ((with_reducible apply zY); exact rfl; exact rfl; exact tf) | ((with_reducible apply zG); exact rfl; exact rfl; exact tf) | ((with_reducible apply zU); exact rfl; exact rfl) | ((with_reducible apply zD); exact rfl; exact rfl) | ((with_reducible apply zB); exact rfl; exact rfl)))
    refine awp_loopL (α := Nat) (fun k => [(1, .d (isl rs)), (2, .ptr 2 0), (5, .d (I 0)), (26, .d (isl rs)), (27, .d (I rs.length)), (28, .d (I k))])
      (fun k => [(2, ⟨63, [isl xs, I t]⟩)]) (fun k => k ≤ rs.length ∧ rndAll t rs = rndAll t (rs.drop k)) (fun k => rs.length - k) 0 ⟨Nat.zero_le _, rfl⟩ (And.intro rfl (And.intro rfl (And.intro rfl (And.intro rfl (And.intro rfl (And.intro rfl trivial)))))) (And.intro rfl trivial) fun k ⟨hkl, hd⟩ => ?_
    by_cases hlt : k < rs.length
    · have hs : rndAll t (rs.drop k) = fst0 (rndErr t (nth rs k) :: (rs.drop (k + 1)).map (rndErr t)) := by rw [drop_getD hlt]; rfl
      by_cases hr0 : rndErr t (nth rs k) = 0
      · (repeat' (first | (with_reducible first | intro hg | refine mv (by constructor) ?_) | ((with_reducible first | refine zR ?_ ?_ | refine zW mixed ?_ ?_); exact kr) | ((with_reducible apply zK); exact rfl; exact tf) | ((with_reducible apply zCD); exact rfl) | ((with_reducible apply zCN); exact rfl) | ((with_reducible apply zC); exact rfl) | ((with_reducible refine zX ?_ ?_); exact rfl) | ((with_reducible refine zE (And.intro ?_ ?_)); exact kr) | (with_reducible refine zE ?_) | ((with_reducible apply zP); (first | exact dp | exact oc rfl (roundErr_A _ _ _ (by omega)))) | ((with_reducible apply zN); exact dn) | ((with_reducible apply zA); exact da) | ((with_reducible apply zS); exact ds) | ((with_reducible apply zY); exact rfl; exact rfl; exact tf) | ((with_reducible apply zG); exact rfl; exact rfl; exact tf) | ((with_reducible apply zU); exact rfl; exact rfl) | ((with_reducible apply zD); exact rfl; exact rfl) | ((with_reducible apply zB); exact rfl; exact rfl)))
        refine ⟨k + 1, ⟨by omega, ?_⟩, by omega, (And.intro rfl (And.intro rfl (And.intro rfl (And.intro rfl (And.intro rfl (And.intro rfl trivial)))))), (And.intro rfl trivial)⟩
        rw [hd, hs, hr0, fst0_zero]; rfl
      · have hv : csE xs t rs = rndErr t (nth rs k) := by rw [hcs, hd, hs, fst0_ne hr0]
        rw [h1 (by rw [hv]; exact hr0), hv]
        (repeat' (first | (with_reducible first | intro hg | refine mv (by constructor) ?_) | ((with_reducible first | refine zR ?_ ?_ | refine zW mixed ?_ ?_); exact kr) | ((with_reducible apply zK); exact rfl; exact tf) | ((with_reducible apply zCD); exact rfl) | ((with_reducible apply zCN); exact rfl) | ((with_reducible apply zC); exact rfl) | ((with_reducible refine zX ?_ ?_); exact rfl) | ((with_reducible refine zE (And.intro ?_ ?_)); exact kr) | (with_reducible refine zE ?_) | ((with_reducible apply zP); (first | exact dp | exact oc rfl (roundErr_A _ _ _ (by omega)))) | ((with_reducible apply zN); exact dn) | ((with_reducible apply zA); exact da) | ((with_reducible apply zS); exact ds) | ((with_reducible apply zY); exact rfl; exact rfl; exact tf) | ((with_reducible apply zG); exact rfl; exact rfl; exact tf) | ((with_reducible apply zU); exact rfl; exact rfl) | ((with_reducible apply zD); exact rfl; exact rfl) | ((with_reducible apply zB); exact rfl; exact rfl)))
        ((with_reducible first | apply q_retR | apply q_retN); exact rl)
        rfl
    · rw [List.drop_of_length_le (by omega)] at hd
      have hz : rndAll t rs = 0 := hd
      rw [h2 (by rw [hcs, hz])]
      (repeat' (first | (with_reducible first | intro hg | refine mv (by constructor) ?_) | ((with_reducible first | refine zR ?_ ?_ | refine zW mixed ?_ ?_); exact kr) | ((with_reducible apply zK); exact rfl; exact tf) | ((with_reducible apply zCD); exact rfl) | ((with_reducible apply zCN); exact rfl) | ((with_reducible apply zC); exact rfl) | ((with_reducible refine zX ?_ ?_); exact rfl) | ((with_reducible refine zE (And.intro ?_ ?_)); exact kr) | (with_reducible refine zE ?_) | ((with_reducible apply zP); exact dp) | ((with_reducible apply zN); exact dn) | ((with_reducible apply zA); exact da) | ((with_reducible apply zS); exact ds) | ((with_reducible apply zY); exact rfl; exact rfl; exact tf) | ((with_reducible apply zG); exact rfl; exact rfl; exact tf) | ((with_reducible apply zU); exact rfl; exact rfl) | ((with_reducible apply zD); exact rfl; exact rfl) | ((with_reducible apply zB); exact rfl; exact rfl)))
      refine awp_loopL (α := Nat × List Int) (fun x => [(2, .ptr 2 0), (5, .d (I 0)), (10, ownL 67 x.2), (39, .d (isl rs)), (40, .d (I rs.length)), (41, .d (I (x.1 : Nat)))])
        (fun x => (2, ⟨63, [isl xs, I t]⟩) :: ownLM 67 3 x.2) (fun x => x.1 ≤ rs.length ∧ x.2 = csTo xs t rs x.1) (fun x => rs.length - x.1) (0, []) ⟨Nat.zero_le _, rfl⟩ (And.intro rfl (And.intro rfl (And.intro rfl (And.intro rfl (And.intro rfl (And.intro rfl trivial)))))) (And.intro rfl trivial) fun ⟨k, l⟩ ⟨hkl, hl⟩ => ?_
      have hl : l = csTo xs t rs k := hl
      have hkl : k ≤ rs.length := hkl
      by_cases hlt : k < rs.length
      · obtain ⟨⟨r1, r2⟩, r3⟩ := rnd_ok (rndAll_ok hz hlt)
        have hb := phLo_bnd (xs := xs) (t := t) (is := allM xs) (show 0 < nth rs k by omega)
        have hph := phases_A xs t (nth rs k) (allM xs) (allM_ok (by omega) (by omega)) k5 k3 k4 (by omega) (by omega)
        have hts := csTo_succ xs t rs k
        have hlen := csTo_len xs t rs k
        rw [← hl] at hlen hts
        cases hok : phOk xs t (nth rs k) (allM xs)
        · have hc : isCs xs t (nth rs k) = false := by unfold isCs; rw [hok]; rfl
          rw [hok] at hph
          rw [hc] at hts
          have hl2 : l = csTo xs t rs (k + 1) := by rw [hts]; simp
          rcases l with _ | ⟨x, l⟩
          · (repeat' (first | (with_reducible first | intro hg | refine mv (by constructor) ?_) | ((with_reducible first | refine zR ?_ ?_ | refine zW mixed ?_ ?_); exact kr) | ((with_reducible apply zK); exact rfl; exact tf) | ((with_reducible apply zCD); exact rfl) | ((with_reducible apply zCN); exact rfl) | ((with_reducible apply zC); exact rfl) | ((with_reducible refine zX ?_ ?_); exact rfl) | ((with_reducible refine zE (And.intro ?_ ?_)); exact kr) | (with_reducible refine zE ?_) | ((with_reducible apply zP); (first | exact dp | exact oc rfl (every_A _ _ (by omega)) | exact oc rfl (hph))) | ((with_reducible apply zN); exact dn) | ((with_reducible apply zA); exact da) | ((with_reducible apply zS); exact ds) | ((with_reducible apply zY); exact rfl; exact rfl; exact tf) | ((with_reducible apply zG); exact rfl; exact rfl; exact tf) | ((with_reducible apply zU); exact rfl; exact rfl) | ((with_reducible apply zD); exact rfl; exact rfl) | ((with_reducible apply zB); exact rfl; exact rfl)))
            exact ⟨(k + 1, []), ⟨hlt, hl2⟩, by show rs.length - (k + 1) < rs.length - k; omega, (And.intro rfl (And.intro rfl (And.intro rfl (And.intro rfl (And.intro rfl (And.intro rfl trivial)))))), (And.intro rfl trivial)⟩
          · (repeat' (first | (with_reducible first | intro hg | refine mv (by constructor) ?_) | ((with_reducible first | refine zR ?_ ?_ | refine zW mixed ?_ ?_); exact kr) | ((with_reducible apply zK); exact rfl; exact tf) | ((with_reducible apply zCD); exact rfl) | ((with_reducible apply zCN); exact rfl) | ((with_reducible apply zC); exact rfl) | ((with_reducible refine zX ?_ ?_); exact rfl) | ((with_reducible refine zE (And.intro ?_ ?_)); exact kr) | (with_reducible refine zE ?_) | ((with_reducible apply zP); (first | exact dp | exact oc rfl (every_A _ _ (by omega)) | exact oc rfl (hph))) | ((with_reducible apply zN); exact dn) | ((with_reducible apply zA); exact da) | ((with_reducible apply zS); exact ds) | ((with_reducible apply zY); exact rfl; exact rfl; exact tf) | ((with_reducible apply zG); exact rfl; exact rfl; exact tf) | ((with_reducible apply zU); exact rfl; exact rfl) | ((with_reducible apply zD); exact rfl; exact rfl) | ((with_reducible apply zB); exact rfl; exact rfl)))
            exact ⟨(k + 1, x :: l), ⟨hlt, hl2⟩, by show rs.length - (k + 1) < rs.length - k; omega, (And.intro rfl (And.intro rfl (And.intro rfl (And.intro rfl (And.intro rfl (And.intro rfl trivial)))))), (And.intro rfl (And.intro rfl trivial))⟩
        · rw [hok] at hph
          by_cases hz2 : ((misL xs t (nth rs k) (phLo xs t (nth rs k) (allM xs))).length : Int) = 0
          · have hc : isCs xs t (nth rs k) = true := by unfold isCs; rw [hok, decide_eq_true hz2]; rfl
            rw [hc] at hts
            rcases l with _ | ⟨x, l⟩
            · (repeat' (first | (with_reducible first | intro hg | refine mv (by constructor) ?_) | ((with_reducible first | refine zR ?_ ?_ | refine zW mixed ?_ ?_); exact kr) | ((with_reducible apply zK); exact rfl; exact tf) | ((with_reducible apply zCD); exact rfl) | ((with_reducible apply zCN); exact rfl) | ((with_reducible apply zC); exact rfl) | ((with_reducible refine zX ?_ ?_); exact rfl) | ((with_reducible refine zE (And.intro ?_ ?_)); exact kr) | (with_reducible refine zE ?_) | ((with_reducible apply zP); (first | exact dp | exact oc rfl (every_A _ _ (by omega)) | exact oc rfl (hph) | exact oc rfl (missing_A _ _ _ _ hk r1 r2 (by omega)))) | ((with_reducible apply zN); exact dn) | ((with_reducible apply zA); exact da) | ((with_reducible apply zS); exact ds) | ((with_reducible apply zY); exact rfl; exact rfl; exact tf) | ((with_reducible apply zG); exact rfl; exact rfl; exact tf) | ((with_reducible apply zU); exact rfl; exact rfl) | ((with_reducible apply zD); exact rfl; exact rfl) | ((with_reducible apply zB); exact rfl; exact rfl)))
              refine ⟨(k + 1, [(k : Int)]), ⟨hlt, ?_⟩, by show rs.length - (k + 1) < rs.length - k; omega, (And.intro rfl (And.intro rfl (And.intro rfl (And.intro rfl (And.intro rfl (And.intro rfl trivial)))))), (And.intro rfl (And.intro rfl trivial))⟩
              show [(k : Int)] = csTo xs t rs (k + 1)
              rw [hts]; simp
            · (repeat' (first | (with_reducible first | intro hg | refine mv (by constructor) ?_) | ((with_reducible first | refine zR ?_ ?_ | refine zW mixed ?_ ?_); exact kr) | ((with_reducible apply zK); exact rfl; exact tf) | ((with_reducible apply zCD); exact rfl) | ((with_reducible apply zCN); exact rfl) | ((with_reducible apply zC); exact rfl) | ((with_reducible refine zX ?_ ?_); exact rfl) | ((with_reducible refine zE (And.intro ?_ ?_)); exact kr) | (with_reducible refine zE ?_) | ((with_reducible apply zP); (first | exact dp | exact oc rfl (every_A _ _ (by omega)) | exact oc rfl (hph) | exact oc rfl (missing_A _ _ _ _ hk r1 r2 (by omega)))) | ((with_reducible apply zN); exact dn) | ((with_reducible apply zA); exact da) | ((with_reducible apply zS); exact ds) | ((with_reducible apply zY); exact rfl; exact rfl; exact tf) | ((with_reducible apply zG); exact rfl; exact rfl; exact tf) | ((with_reducible apply zU); exact rfl; exact rfl) | ((with_reducible apply zD); exact rfl; exact rfl) | ((with_reducible apply zB); exact rfl; exact rfl)))
              refine ⟨(k + 1, x :: (l ++ [(k : Int)])), ⟨hlt, ?_⟩, by show rs.length - (k + 1) < rs.length - k; omega, (And.intro rfl (And.intro rfl (And.intro (ownL_snoc 67 x l k) (And.intro (rfl) (And.intro (rfl) (And.intro (rfl) trivial)))))), (And.intro rfl (And.intro (blkL_snoc _ x l k) trivial))⟩
              show x :: (l ++ [(k : Int)]) = csTo xs t rs (k + 1)
              rw [hts]; simp
          · have hc : isCs xs t (nth rs k) = false := by unfold isCs; rw [hok, decide_eq_false hz2]; rfl
            rw [hc] at hts
            have hl2 : l = csTo xs t rs (k + 1) := by rw [hts]; simp
            rcases l with _ | ⟨x, l⟩
            · (repeat' (first | (with_reducible first | intro hg | refine mv (by constructor) ?_) | ((with_reducible first | refine zR ?_ ?_ | refine zW mixed ?_ ?_); exact kr) | ((with_reducible apply zK); exact rfl; exact tf) | ((with_reducible apply zCD); exact rfl) | ((with_reducible apply zCN); exact rfl) | ((with_reducible apply zC); exact rfl) | ((with_reducible refine zX ?_ ?_); exact rfl) | ((with_reducible refine zE (And.intro ?_ ?_)); exact kr) | (with_reducible refine zE ?_) | ((with_reducible apply zP); (first | exact dp | exact oc rfl (every_A _ _ (by omega)) | exact oc rfl (hph) | exact oc rfl (missing_A _ _ _ _ hk r1 r2 (by omega)))) | ((with_reducible apply zN); exact dn) | ((with_reducible apply zA); exact da) | ((with_reducible apply zS); exact ds) | ((with_reducible apply zY); exact rfl; exact rfl; exact tf) | ((with_reducible apply zG); exact rfl; exact rfl; exact tf) | ((with_reducible apply zU); exact rfl; exact rfl) | ((with_reducible apply zD); exact rfl; exact rfl) | ((with_reducible apply zB); exact rfl; exact rfl)))
              exact ⟨(k + 1, []), ⟨hlt, hl2⟩, by show rs.length - (k + 1) < rs.length - k; omega, (And.intro rfl (And.intro rfl (And.intro rfl (And.intro rfl (And.intro rfl (And.intro rfl trivial)))))), (And.intro rfl trivial)⟩
            · (repeat' (first | (with_reducible first | intro hg | refine mv (by constructor) ?_) | ((with_reducible first | refine zR ?_ ?_ | refine zW mixed ?_ ?_); exact kr) | ((with_reducible apply zK); exact rfl; exact tf) | ((with_reducible apply zCD); exact rfl) | ((with_reducible apply zCN); exact rfl) | ((with_reducible apply zC); exact rfl) | ((with_reducible refine zX ?_ ?_); exact rfl) | ((with_reducible refine zE (And.intro ?_ ?_)); exact kr) | (with_reducible refine zE ?_) | ((with_reducible apply zP); (first | exact dp | exact oc rfl (every_A _ _ (by omega)) | exact oc rfl (hph) | exact oc rfl (missing_A _ _ _ _ hk r1 r2 (by omega)))) | ((with_reducible apply zN); exact dn) | ((with_reducible apply zA); exact da) | ((with_reducible apply zS); exact ds) | ((with_reducible apply zY); exact rfl; exact rfl; exact tf) | ((with_reducible apply zG); exact rfl; exact rfl; exact tf) | ((with_reducible apply zU); exact rfl; exact rfl) | ((with_reducible apply zD); exact rfl; exact rfl) | ((with_reducible apply zB); exact rfl; exact rfl)))
              exact ⟨(k + 1, x :: l), ⟨hlt, hl2⟩, by show rs.length - (k + 1) < rs.length - k; omega, (And.intro rfl (And.intro rfl (And.intro rfl (And.intro rfl (And.intro rfl (And.intro rfl trivial)))))), (And.intro rfl (And.intro rfl trivial))⟩
      · have hk2 : k = rs.length := by omega
        subst hk2
        refine awp_ownL 10 67 (t := 3) l rfl (fun x k hx => by subst hx; rfl) ?_
        (repeat' (first | (with_reducible first | intro hg | refine mv (by constructor) ?_) | ((with_reducible first | refine zR ?_ ?_ | refine zW mixed ?_ ?_); exact kr) | ((with_reducible apply zK); exact rfl; exact tf) | ((with_reducible apply zCD); exact rfl) | ((with_reducible apply zCN); exact rfl) | ((with_reducible apply zC); exact rfl) | ((with_reducible refine zX ?_ ?_); exact rfl) | ((with_reducible refine zE (And.intro ?_ ?_)); exact kr) | (with_reducible refine zE ?_) | ((with_reducible apply zP); exact dp) | ((with_reducible apply zN); exact dn) | ((with_reducible apply zA); exact da) | ((with_reducible apply zS); exact ds) | ((with_reducible apply zY); exact rfl; exact rfl; exact tf) | ((with_reducible apply zG); exact rfl; exact rfl; exact tf) | ((with_reducible apply zU); exact rfl; exact rfl) | ((with_reducible apply zD); exact rfl; exact rfl) | ((with_reducible apply zB); exact rfl; exact rfl)))
        ((with_reducible first | apply q_retR | apply q_retN); exact rl)
        rw [← hl]; rfl
  · have hcs : csE xs t rs = fst0 [(chkM xs t).2, unl (decide ((rs.length : Int) ≤ 20)) 8] := by
      unfold csE; rw [fst0_ne he0]
    rw [h1 (by rw [hcs]; exact he0), hcs]
    refine ac_body Try.func20 rfl (by kernel_rfl) fun w0 ok => ?_; show AWp _ (ctx0 w0 ok _) _ (ARet _ _ _) (entry _)
    (repeat' (first | (with_reducible first | intro hg | refine mv (by constructor) ?_) | ((with_reducible first | refine zR ?_ ?_ | refine zW mixed ?_ ?_); exact kr) | ((with_reducible apply zK); exact rfl; exact tf) | ((with_reducible apply zCD); exact rfl) | ((with_reducible apply zCN); exact rfl) | ((with_reducible apply zC); exact rfl) | ((with_reducible refine zX ?_ ?_); exact rfl) | ((with_reducible refine zE (And.intro ?_ ?_)); exact kr) | (with_reducible refine zE ?_) | ((with_reducible apply zP); (first | exact dp | exact oc rfl (marksErr_A _ _ hm) | exact oc rfl (unless_A _ _) | exact oc rfl (first2_A _ _))) | ((with_reducible apply zN); exact dn) | ((with_reducible apply zA); exact da) | ((with_reducible apply zS); exact ds) | ((with_reducible apply zY); exact rfl; exact rfl; exact tf) | ((with_reducible apply zG); exact rfl; exact rfl; exact tf) | ((with_reducible apply zU); exact rfl; exact rfl) | ((with_reducible apply zD); exact rfl; exact rfl) | ((with_reducible apply zB); exact rfl; exact rfl)))
    ((with_reducible first | apply q_retR | apply q_retN); exact rl)
    rfl

end Go.Proofs.Ytgjhikjnlcbmkaa

/- Walk: awake (the examples of the document). -/
namespace Go.Proofs.Ytgjhikjnlcbmkaa
open Go.RowKit
set_option maxRecDepth 20000
set_option maxHeartbeats 4000000

abbrev nmA : ByteArray := ⟨#[97]⟩
abbrev nmB : ByteArray := ⟨#[98]⟩
theorem drums_A : AC Try.prog 17 [] (drums2 nmA 4 0 nmB 8 0) := by
  refine ac_body Try.func17 rfl (by kernel_rfl) fun w0 ok => ?_; show AWp _ (ctx0 w0 ok _) _ (ARet _ _ _) (entry _)
  (repeat' (first | (with_reducible first | intro hg | refine mv (by constructor) ?_) | ((with_reducible first | refine zR ?_ ?_ | refine zW mixed ?_ ?_); exact kr) | ((with_reducible apply zK); exact rfl; exact tf) | ((with_reducible apply zCD); exact rfl) | ((with_reducible apply zCN); exact rfl) | ((with_reducible apply zC); exact rfl) | ((with_reducible refine zX ?_ ?_); exact rfl) | ((with_reducible refine zE (And.intro ?_ ?_)); exact kr) | (with_reducible refine zE ?_) | ((with_reducible apply zP); exact dp) | ((with_reducible apply zN); exact dn) | ((with_reducible apply zA); exact da) | ((with_reducible apply zS); exact ds) | ((with_reducible apply zY); exact rfl; exact rfl; exact tf) | ((with_reducible apply zG); exact rfl; exact rfl; exact tf) | ((with_reducible apply zU); exact rfl; exact rfl) | ((with_reducible apply zD); exact rfl; exact rfl) | ((with_reducible apply zB); exact rfl; exact rfl)))
  ((with_reducible first | apply q_retR | apply q_retN); exact rl)
  rfl
theorem record_A : AC Try.prog 19 [] (isl [5, -3, -3, 5, 1, -7, -3, 5]) := by
  refine ac_body Try.func19 rfl (by kernel_rfl) fun w0 ok => ?_; show AWp _ (ctx0 w0 ok _) _ (ARet _ _ _) (entry _)
  (repeat' (first | (with_reducible first | intro hg | refine mv (by constructor) ?_) | ((with_reducible first | refine zR ?_ ?_ | refine zW mixed ?_ ?_); exact kr) | ((with_reducible apply zK); exact rfl; exact tf) | ((with_reducible apply zCD); exact rfl) | ((with_reducible apply zCN); exact rfl) | ((with_reducible apply zC); exact rfl) | ((with_reducible refine zX ?_ ?_); exact rfl) | ((with_reducible refine zE (And.intro ?_ ?_)); exact kr) | (with_reducible refine zE ?_) | ((with_reducible apply zP); (first | exact o_buildSlD rfl (by decide) rfl | exact dp)) | ((with_reducible apply zN); exact dn) | ((with_reducible apply zA); exact da) | ((with_reducible apply zS); exact ds) | ((with_reducible apply zY); exact rfl; exact rfl; exact tf) | ((with_reducible apply zG); exact rfl; exact rfl; exact tf) | ((with_reducible apply zU); exact rfl; exact rfl) | ((with_reducible apply zD); exact rfl; exact rfl) | ((with_reducible apply zB); exact rfl; exact rfl)))
  ((with_reducible first | apply q_retR | apply q_retN); exact rl)
  rfl
theorem marks_A : AC Try.prog 21 [] (marksV [100, 1350, 2602] 2) := by
  refine ac_body Try.func21 rfl (by kernel_rfl) fun w0 ok => ?_; show AWp _ (ctx0 w0 ok _) _ (ARet _ _ _) (entry _)
  (repeat' (first | (with_reducible first | intro hg | refine mv (by constructor) ?_) | ((with_reducible first | refine zR ?_ ?_ | refine zW mixed ?_ ?_); exact kr) | ((with_reducible apply zK); exact rfl; exact tf) | ((with_reducible apply zCD); exact rfl) | ((with_reducible apply zCN); exact rfl) | ((with_reducible apply zC); exact rfl) | ((with_reducible refine zX ?_ ?_); exact rfl) | ((with_reducible refine zE (And.intro ?_ ?_)); exact kr) | (with_reducible refine zE ?_) | ((with_reducible apply zP); (first | exact o_buildSlD rfl (by decide) rfl | exact dp)) | ((with_reducible apply zN); exact dn) | ((with_reducible apply zA); exact da) | ((with_reducible apply zS); exact ds) | ((with_reducible apply zY); exact rfl; exact rfl; exact tf) | ((with_reducible apply zG); exact rfl; exact rfl; exact tf) | ((with_reducible apply zU); exact rfl; exact rfl) | ((with_reducible apply zD); exact rfl; exact rfl) | ((with_reducible apply zB); exact rfl; exact rfl)))
  ((with_reducible first | apply q_retR | apply q_retN); exact rl)
  rfl
theorem few_A (xs : List Int) (hm : xs.length ≤ 140737488355328) : AC Try.prog 6 [isl xs] (B (decide ((xs.length : Int) ≤ 242))) := by
  refine ac_body Try.func6 rfl (by kernel_rfl) fun w0 ok => ?_; show AWp _ (ctx0 w0 ok _) _ (ARet _ _ _) (entry _)
  (repeat' (first | (with_reducible first | intro hg | refine mv (by constructor) ?_) | ((with_reducible first | refine zR ?_ ?_ | refine zW mixed ?_ ?_); exact kr) | ((with_reducible apply zK); exact rfl; exact tf) | ((with_reducible apply zCD); exact rfl) | ((with_reducible apply zCN); exact rfl) | ((with_reducible apply zC); exact rfl) | ((with_reducible refine zX ?_ ?_); exact rfl) | ((with_reducible refine zE (And.intro ?_ ?_)); exact kr) | (with_reducible refine zE ?_) | ((with_reducible apply zP); exact dp) | ((with_reducible apply zN); exact dn) | ((with_reducible apply zA); exact da) | ((with_reducible apply zS); exact ds) | ((with_reducible apply zY); exact rfl; exact rfl; exact tf) | ((with_reducible apply zG); exact rfl; exact rfl; exact tf) | ((with_reducible apply zU); exact rfl; exact rfl) | ((with_reducible apply zD); exact rfl; exact rfl) | ((with_reducible apply zB); exact rfl; exact rfl)))
  ((with_reducible first | apply q_retR | apply q_retN); exact rl)
  rfl
theorem ex_amp : AC Try.prog 16 [isl [3, -5, -3, 5], drumV nmA 4 0] (.tuple [ampV (3, 1) (5, 1), I 0]) := by
  have h := amplitudeOf_ok [3, -5, -3, 5] nmA 4 0 (by decide) ⟨by decide, by decide⟩ (by kernel_rfl)
  rwa [show low (2 * reOf 4 0 [3, -5, -3, 5]) (cnt ([3, -5, -3, 5] : List Int).length 4 : Nat) = (3, 1) by kernel_rfl, show low (2 * imOf 4 0 [3, -5, -3, 5]) (cnt ([3, -5, -3, 5] : List Int).length 4 : Nat) = (5, 1) by kernel_rfl] at h
theorem ex_steady : AC Try.prog 18 [isl [13, 7, 11, 21, 21, 15], drumV nmA 4 0] (.tuple [ampV (3, 1) (5, 1), I 0]) := by
  have h := steadyOf_ok [13, 7, 11, 21, 21, 15] nmA 4 0 (by decide) ⟨by decide, by decide⟩ (by kernel_rfl)
  rwa [show low (reOf 4 0 (dif [13, 7, 11, 21, 21, 15] ((4 : Int) / 2).toNat)) (cnt (dif [13, 7, 11, 21, 21, 15] ((4 : Int) / 2).toNat).length 4 : Nat) = (3, 1) by kernel_rfl, show low (imOf 4 0 (dif [13, 7, 11, 21, 21, 15] ((4 : Int) / 2).toNat)) (cnt (dif [13, 7, 11, 21, 21, 15] ((4 : Int) / 2).toNat).length 4 : Nat) = (5, 1) by kernel_rfl] at h
theorem ex_run : AC Try.prog 22 [isl [3, -5, -3, 5, 3, -5, -3, 5, 4], drumV nmA 4 0] (.tuple [isl [3, -5, -3, 5, 0, 0, 0, 0, 1], I 0]) := by
  have h := run_ok [3, -5, -3, 5, 3, -5, -3, 5, 4] nmA 4 0 (by decide) (by kernel_rfl)
  rwa [show lst (runAt [3, -5, -3, 5, 3, -5, -3, 5, 4] 4 0) [3, -5, -3, 5, 3, -5, -3, 5, 4].length = [3, -5, -3, 5, 0, 0, 0, 0, 1] by kernel_rfl] at h
theorem ex_fit : AC Try.prog 7 [isl [5, -3, -3, 5, 1, -7, -3, 5], drums2 nmA 4 0 nmB 8 0] (.tuple [.agg [I 1, I 3, I 5, I 2, I 0], I 0]) := by
  refine fitOf_A _ _ _ _ _ _ _ (by decide) ⟨by decide, by decide⟩ (by decide) ⟨by decide, by decide⟩ (by kernel_rfl) _ _ rfl rfl _ (fun h => ?_) (fun _ h => ?_) (fun _ _ => ?_)
  · have : ¬ fitDen (eqM (fun k i => W4 4 0 8 0 k i) [5, -3, -3, 5, 1, -7, -3, 5].length) = 0 := of_decide_eq_true (by kernel_rfl)
    exact absurd h this
  · have : fitAll (eqM (fun k i => W4 4 0 8 0 k i) [5, -3, -3, 5, 1, -7, -3, 5].length) (eqR (fun k i => W4 4 0 8 0 k i) [5, -3, -3, 5, 1, -7, -3, 5] [5, -3, -3, 5, 1, -7, -3, 5].length) = true := by kernel_rfl
    rw [this] at h
    cases h
  · have e1 : fitD (eqM (fun k i => W4 4 0 8 0 k i) [5, -3, -3, 5, 1, -7, -3, 5].length) (eqR (fun k i => W4 4 0 8 0 k i) [5, -3, -3, 5, 1, -7, -3, 5] [5, -3, -3, 5, 1, -7, -3, 5].length) = 1 := by kernel_rfl
    have e2 : (List.range 4).map (fitQ (eqM (fun k i => W4 4 0 8 0 k i) [5, -3, -3, 5, 1, -7, -3, 5].length) (eqR (fun k i => W4 4 0 8 0 k i) [5, -3, -3, 5, 1, -7, -3, 5] [5, -3, -3, 5, 1, -7, -3, 5].length)) = [3, 5, 2, 0] := by kernel_rfl
    have e3 := List.cons.inj e2
    have e4 := List.cons.inj e3.2
    have e5 := List.cons.inj e4.2
    have e6 := List.cons.inj e5.2
    unfold f5V
    rw [e1, e3.1, e4.1, e5.1, e6.1]
theorem ex_causes : AC Try.prog 20 [marksV [100, 1350, 2602] 2, isl [625, 1250, 2500]] (.tuple [isl [1], I 0]) := by
  refine causes_A _ _ _ (by decide) (by decide) _ (fun h => absurd (by kernel_rfl) h) fun _ => ?_
  rw [show csTo [100, 1350, 2602] 2 [625, 1250, 2500] ([625, 1250, 2500] : List Int).length = [1] by kernel_rfl]

theorem awake_A : AC Try.prog 5 [] (B true) := by
  refine ac_body Try.func5 rfl (by kernel_rfl) fun w0 ok => ?_; show AWp _ (ctx0 w0 ok _) _ (ARet _ _ _) (entry _)
  (repeat' (first | (with_reducible first | intro hg | refine mv (by constructor) ?_) | ((with_reducible first | refine zR ?_ ?_ | refine zW mixed ?_ ?_); exact kr) | ((with_reducible apply zK); exact rfl; exact tf) | ((with_reducible apply zCD); exact rfl) | ((with_reducible apply zCN); exact rfl) | ((with_reducible apply zC); exact rfl) | ((with_reducible refine zX ?_ ?_); exact rfl) | ((with_reducible refine zE (And.intro ?_ ?_)); exact kr) | (with_reducible refine zE ?_) | ((with_reducible apply zP); (first | exact o_buildSlD rfl (by decide) rfl | exact dp | exact oc rfl (drums_A) | exact oc rfl (record_A) | exact oc rfl (marks_A) | exact oc rfl (ex_amp) | exact oc rfl (ex_steady) | exact oc rfl (ex_run) | exact oc rfl (ex_fit) | exact oc rfl (ex_causes) | exact oc rfl (whole_A 3) | exact oc rfl (whole_A 5) | exact oc rfl (ints_A [1] [1] (by decide) (by decide)) | exact oc rfl (ints_A [3, -5, -3, 5, 0, 0, 0, 0, 1] [3, -5, -3, 5, 0, 0, 0, 0, 1] (by decide) (by decide)))) | ((with_reducible apply zN); exact dn) | ((with_reducible apply zA); exact da) | ((with_reducible apply zS); exact ds) | ((with_reducible apply zY); exact rfl; exact rfl; exact tf) | ((with_reducible apply zG); exact rfl; exact rfl; exact tf) | ((with_reducible apply zU); exact rfl; exact rfl) | ((with_reducible apply zD); exact rfl; exact rfl) | ((with_reducible apply zB); exact rfl; exact rfl)))
  ((with_reducible first | apply q_retR | apply q_retN); exact rl)
  rfl

end Go.Proofs.Ytgjhikjnlcbmkaa
