/- Matrices: products, the matrix of a tick, powers. -/
import Derived.Test.YtfcfmpdpjmbcnaaGreatDoorUb
set_option linter.unusedVariables false
set_option linter.unusedSimpArgs false
namespace Go.Proofs.YtfcfmpdpjmbcnaaGreatDoor
open Go.RowKit
set_option maxRecDepth 20000
set_option maxHeartbeats 8000000

def rwP (M : Nat → Rg) (n k : Nat) (p : Rg) : List Rg := lsR (fun q => bif decide (q < k) then M q else bif q == k then p else rg0) n
theorem rwP_len (M : Nat → Rg) (n k : Nat) (p : Rg) : (rwP M n k p).length = n := lsR_length _ _
theorem rwP_zero (M : Nat → Rg) (n : Nat) : rwP M n 0 rg0 = lsR (fun _ => rg0) n := lsR_congr fun q _ => by
  rw [decide_eq_false (Nat.not_lt_zero q)]
  show (bif q == 0 then rg0 else rg0) = rg0
  cases q == 0 <;> rfl
theorem rwP_end (M : Nat → Rg) (n : Nat) (p : Rg) : rwP M n n p = lsR M n := lsR_congr fun q h => by rw [decide_eq_true h]; rfl
theorem rwP_get (M : Nat → Rg) {n k : Nat} (h : k < n) (p : Rg) : (rwP M n k p).getD k rg0 = p := by
  unfold rwP
  rw [lsR_get _ h, decide_eq_false (Nat.lt_irrefl k)]
  simp
theorem rwP_set (M : Nat → Rg) {n k : Nat} (h : k < n) (p z : Rg) : (rwP M n k p).set k z = rwP M n k z := by
  unfold rwP
  rw [lsR_set _ h]
  refine lsR_congr fun q _ => ?_
  by_cases e : q = k
  · subst e
    rw [decide_eq_false (Nat.lt_irrefl q)]
    simp
  · rw [show (q == k) = false by simp [e]]; rfl
theorem rwP_next (M : Nat → Rg) {n k : Nat} : rwP M n k (M k) = rwP M n (k + 1) rg0 := lsR_congr fun q _ => by
  rcases Nat.lt_trichotomy q k with e | e | e
  · rw [decide_eq_true e, decide_eq_true (by omega)]; rfl
  · subst e
    rw [decide_eq_false (Nat.lt_irrefl q), decide_eq_true (Nat.lt_succ_self q)]
    simp
  · rw [decide_eq_false (by omega), decide_eq_false (by omega), show (q == k) = false by simp; omega]
    show rg0 = bif q == k + 1 then rg0 else rg0
    cases q == k + 1 <;> rfl
theorem times_A (A O : Ml) (hA : Sq A.length A) (hO : Sq A.length O) (h3 : A.length ≤ 3) {K : Nat} (hK : K ≤ 10000000000) (bA : BndM 10 (ent A)) (bO : BndM K (ent O)) : AC Tryz.prog 144 [mxV A, mxV O] (mxV (mkL A.length (mulM A.length (ent A) (ent O)))) := by
  obtain ⟨n, hn⟩ : ∃ n, n = A.length := ⟨_, rfl⟩
  rw [← hn] at hA hO h3 ⊢
  obtain ⟨f, hf⟩ : ∃ f : Nat → List Rg, f = fun i => lsR (mulM n (ent A) (ent O) i) n := ⟨_, rfl⟩
  have hfl : ∀ i, (f i).length = n := fun i => by rw [hf]; exact lsR_length _ _
  have hend : mxV (mkL n (mulM n (ent A) (ent O))) = .slice n (mxS ((List.range n).map f)) := by
    rw [hf]
    show DV.slice (mkL n _).length _ = _
    rw [show (mkL n (mulM n (ent A) (ent O))).length = n by simp [mkL]]; rfl
  rw [hend]
  have hnI : AV.d (I (A.length : Nat)) = AV.d (I (n : Nat)) := by rw [hn]
  refine ac_body Tryz.func144 rfl (by kernel_rfl) fun w0 ok => ?_; show AWp _ (ctx0 w0 ok _) _ (ARet _ _ _) (entry _)
  (repeat' (first | (with_reducible first | intro hg | refine mv (by constructor) ?_) | ((with_reducible first | refine zR ?_ ?_ | refine zW mixed ?_ ?_); exact kr) | ((with_reducible apply zK); exact rfl; exact tf) | ((with_reducible apply zCD); exact rfl) | ((with_reducible apply zCN); exact rfl) | ((with_reducible apply zC); exact rfl) | ((with_reducible refine zX ?_ ?_); exact rfl) | ((with_reducible refine zE (And.intro ?_ ?_)); exact kr) | (with_reducible refine zE ?_) | ((with_reducible apply zP); exact dp) | ((with_reducible apply zN); (first | exact dn | exact o_makeSl (n := n) (by rw [hn]; rfl) (by omega) (by omega) (zer_nil n))) | ((with_reducible apply zA); exact da) | ((with_reducible apply zS); exact ds) | ((with_reducible apply zY); exact rfl; exact rfl; exact tf) | ((with_reducible apply zG); exact rfl; exact rfl; exact tf) | ((with_reducible apply zU); exact rfl; exact rfl) | ((with_reducible apply zD); exact rfl; exact rfl) | ((with_reducible apply zB); exact rfl; exact rfl)))
  refine awp_loopL (α := Nat) (fun i => [(0, .d (mxV A)), (1, .d (mxV O)), (5, .lsl 12 0 n 1), (14, .d (I n)), (15, .d (I i))]) (fun i => [(12, ⟨22, mxD f n i⟩)]) (fun i => i ≤ n) (fun i => n - i) 0 (Nat.zero_le _) (And.intro rfl (And.intro rfl (And.intro rfl (And.intro (hnI) (And.intro (rfl) trivial))))) (And.intro (congrArg (fun l => some (Blk.mk _ l)) (mxD_zero _ _).symm) trivial) fun i hi => ?_
  by_cases hin : i < n
  rotate_left
  · obtain rfl : i = n := by omega
    rw [mxD_end]
    have hl := mxS_len ((List.range i).map f)
    rw [List.length_map, List.length_range] at hl
    have hfz : DV.slice i (((mxS ((List.range i).map f)).drop 0).take (i * 1)) = .slice i (mxS ((List.range i).map f)) := by rw [List.drop_zero, List.take_of_length_le (by omega)]
    rw [← hfz]
    (repeat' ((fail_if_success (with_reducible show AWp _ _ (.region 17 _ _) _ _)); (first | (with_reducible first | intro hg | refine mv (by constructor) ?_) | ((with_reducible first | refine zR ?_ ?_ | refine zW mixed ?_ ?_); exact kr) | ((with_reducible apply zK); exact rfl; exact tf) | ((with_reducible apply zCD); exact rfl) | ((with_reducible apply zCN); exact rfl) | ((with_reducible apply zC); exact rfl) | ((with_reducible refine zX ?_ ?_); exact rfl) | ((with_reducible refine zE (And.intro ?_ ?_)); exact kr) | (with_reducible refine zE ?_) | ((with_reducible apply zP); exact dp) | ((with_reducible apply zN); exact dn) | ((with_reducible apply zA); exact da) | ((with_reducible apply zS); exact ds) | ((with_reducible apply zY); exact rfl; exact rfl; exact tf) | ((with_reducible apply zG); exact rfl; exact rfl; exact tf) | ((with_reducible apply zU); exact rfl; exact rfl) | ((with_reducible apply zD); exact rfl; exact rfl) | ((with_reducible apply zB); exact rfl; exact rfl))))
    refine awp_freeze 12 rfl ?_
    exact zF
  have hlen := mxD_len (f := f) (n := n) (k := i) hi
  have hg := mxD_get (f := f) hin
  have hg' := mxD_get' (f := f) hin
  have hul := fun (v : DV) (r : List Rg) (hr : r = f i) => unlink_row hin v hr (hfl i)
  have hAi := hA.2 i hin
  have z0 := lsR_length (fun _ => rg0) n
  generalize mxD f n i = D at *
  (repeat' ((fail_if_success (with_reducible show AWp _ _ (.region 5 _ _) _ _)); (first | (with_reducible first | intro hg | refine mv (by constructor) ?_) | ((with_reducible first | refine zR ?_ ?_ | refine zW mixed ?_ ?_); exact kr) | ((with_reducible apply zK); exact rfl; exact tf) | ((with_reducible apply zCD); exact rfl) | ((with_reducible apply zCN); exact rfl) | ((with_reducible apply zC); exact rfl) | ((with_reducible refine zX ?_ ?_); exact rfl) | ((with_reducible refine zE (And.intro ?_ ?_)); exact kr) | (with_reducible refine zE ?_) | ((with_reducible apply zP); exact dp) | ((with_reducible apply zN); exact dn) | ((with_reducible apply zA); exact da) | ((with_reducible apply zS); exact ds) | ((with_reducible apply zY); exact rfl; exact rfl; exact tf) | ((with_reducible apply zG); exact rfl; exact rfl; exact tf) | ((with_reducible apply zU); exact rfl; exact rfl) | ((with_reducible apply zD); exact rfl; exact rfl) | ((with_reducible apply zB); exact rfl; exact rfl))))
  refine awp_regionL ?_
  ((refine wpl_run (l1 := [_, _, _, _, _, _]) rfl ?_ ?_); exact kr; (repeat' (first | (with_reducible first | intro hg | refine mv (by constructor) ?_) | ((with_reducible first | refine zR ?_ ?_ | refine zW mixed ?_ ?_); exact kr) | ((with_reducible apply zK); exact rfl; exact tf) | ((with_reducible apply zCD); exact rfl) | ((with_reducible apply zCN); exact rfl) | ((with_reducible apply zC); exact rfl) | ((with_reducible refine zX ?_ ?_); exact rfl) | ((with_reducible refine zE (And.intro ?_ ?_)); exact kr) | (with_reducible refine zE ?_) | ((with_reducible apply zP); (first | exact o_indexL (o := i) rfl rfl (by omega) (by omega) (by omega) | exact dp)) | ((with_reducible apply zN); (first | exact dn | exact o_makeSl (n := n) (by rw [hn]; rfl) (by omega) (by omega) (zer_rg n))) | ((with_reducible apply zA); exact da) | ((with_reducible apply zS); exact ds) | ((with_reducible apply zY); exact rfl; exact rfl; exact tf) | ((with_reducible apply zG); exact rfl; exact rfl; exact tf) | ((with_reducible apply zU); exact rfl; exact rfl) | ((with_reducible apply zD); exact rfl; exact rfl) | ((with_reducible apply zB); exact rfl; exact rfl))))
  refine wpl_turn (turns_pin 22 22 PN (by rfl) (by rfl) (by rfl) (by rfl) (by kernel_rfl)) fun x => ?_
  ((refine wpl_run (l1 := [_]) rfl ?_ ?_); exact kr; (repeat' (first | (with_reducible first | intro hg | refine mv (by constructor) ?_) | ((with_reducible first | refine zR ?_ ?_ | refine zW mixed ?_ ?_); exact kr) | ((with_reducible apply zK); exact rfl; exact tf) | ((with_reducible apply zCD); exact rfl) | ((with_reducible apply zCN); exact rfl) | ((with_reducible apply zC); exact rfl) | ((with_reducible refine zX ?_ ?_); exact rfl) | ((with_reducible refine zE (And.intro ?_ ?_)); exact kr) | (with_reducible refine zE ?_) | ((with_reducible apply zP); exact dp) | ((with_reducible apply zN); exact dn) | ((with_reducible apply zA); exact da) | ((with_reducible apply zS); (first | exact o_storeD rfl rfl rfl rfl (by omega) | exact ds)) | ((with_reducible apply zY); exact rfl; exact rfl; exact tf) | ((with_reducible apply zG); exact rfl; exact rfl; exact tf) | ((with_reducible apply zU); exact rfl; exact rfl) | ((with_reducible apply zD); exact rfl; exact rfl) | ((with_reducible apply zB); exact rfl; exact rfl))))
  refine wpl_nil ?_
  obtain ⟨⟨b, cap⟩, hb1, hb2⟩ := x
  have hb1 : n ≤ cap := hb1
  have hb2 : cap ≤ maxLen := hb2
  obtain ⟨M, hM⟩ : ∃ M, M = mulM n (ent A) (ent O) i := ⟨_, rfl⟩
  have hfi : f i = lsR M n := by rw [hf, hM]
  (repeat' (first | (with_reducible first | intro hg | refine mv (by constructor) ?_) | ((with_reducible first | refine zR ?_ ?_ | refine zW mixed ?_ ?_); exact kr) | ((with_reducible apply zK); exact rfl; exact tf) | ((with_reducible apply zCD); exact rfl) | ((with_reducible apply zCN); exact rfl) | ((with_reducible apply zC); exact rfl) | ((with_reducible refine zX ?_ ?_); exact rfl) | ((with_reducible refine zE (And.intro ?_ ?_)); exact kr) | (with_reducible refine zE ?_) | ((with_reducible apply zP); exact dp) | ((with_reducible apply zN); exact dn) | ((with_reducible apply zA); exact da) | ((with_reducible apply zS); exact ds) | ((with_reducible apply zY); exact rfl; exact rfl; exact tf) | ((with_reducible apply zG); exact rfl; exact rfl; exact tf) | ((with_reducible apply zU); exact rfl; exact rfl) | ((with_reducible apply zD); exact rfl; exact rfl) | ((with_reducible apply zB); exact rfl; exact rfl)))
  refine awp_loopL (α := Nat) (fun k => [(0, .d (mxV A)), (1, .d (mxV O)), (5, .lsl 12 0 n 1), (6, .d (I i)), (14, .d (I n)), (15, .d (I i)), (25, .d (I n)), (26, .d (I k)), (PN, linkP b cap 2)]) (fun k => [(12, ⟨22, D.set i (linkC b cap n)⟩), (PN, ⟨64, rgS (rwP M n k rg0)⟩)]) (fun k => k ≤ n) (fun k => n - k) 0 (Nat.zero_le _) (And.intro rfl (And.intro rfl (And.intro rfl (And.intro rfl (And.intro rfl (And.intro rfl (And.intro (hnI) (And.intro (rfl) (And.intro (rfl) trivial))))))))) (And.intro rfl (And.intro (congrArg (fun l => some (Blk.mk _ (rgS l))) (rwP_zero _ _).symm) trivial)) fun k hk => ?_
  by_cases hkn : k < n
  rotate_left
  · obtain rfl : k = n := by omega
    have hrow : rwP M k k rg0 = f i := by rw [hfi]; exact rwP_end _ _ _
    (repeat' ((fail_if_success (with_reducible show AWp _ _ (.region 16 _ _) _ _)); (first | (with_reducible first | intro hg | refine mv (by constructor) ?_) | ((with_reducible first | refine zR ?_ ?_ | refine zW mixed ?_ ?_); exact kr) | ((with_reducible apply zK); exact rfl; exact tf) | ((with_reducible apply zCD); exact rfl) | ((with_reducible apply zCN); exact rfl) | ((with_reducible apply zC); exact rfl) | ((with_reducible refine zX ?_ ?_); exact rfl) | ((with_reducible refine zE (And.intro ?_ ?_)); exact kr) | (with_reducible refine zE ?_) | ((with_reducible apply zP); exact dp) | ((with_reducible apply zN); exact dn) | ((with_reducible apply zA); exact da) | ((with_reducible apply zS); exact ds) | ((with_reducible apply zY); exact rfl; exact rfl; exact tf) | ((with_reducible apply zG); exact rfl; exact rfl; exact tf) | ((with_reducible apply zU); exact rfl; exact rfl) | ((with_reducible apply zD); exact rfl; exact rfl) | ((with_reducible apply zB); exact rfl; exact rfl))))
    refine awp_turn (turns_unlink 12 i PN (by rfl) (hg' _) (by rfl) (by rfl) (by rfl) (by decide) hb1 hb2) fun _ => ?_
    (repeat' (first | (with_reducible first | intro hg | refine mv (by constructor) ?_) | ((with_reducible first | refine zR ?_ ?_ | refine zW mixed ?_ ?_); exact kr) | ((with_reducible apply zK); exact rfl; exact tf) | ((with_reducible apply zCD); exact rfl) | ((with_reducible apply zCN); exact rfl) | ((with_reducible apply zC); exact rfl) | ((with_reducible refine zX ?_ ?_); exact rfl) | ((with_reducible refine zE (And.intro ?_ ?_)); exact kr) | (with_reducible refine zE ?_) | ((with_reducible apply zP); exact dp) | ((with_reducible apply zN); exact dn) | ((with_reducible apply zA); exact da) | ((with_reducible apply zS); exact ds) | ((with_reducible apply zY); exact rfl; exact rfl; exact tf) | ((with_reducible apply zG); exact rfl; exact rfl; exact tf) | ((with_reducible apply zU); exact rfl; exact rfl) | ((with_reducible apply zD); exact rfl; exact rfl) | ((with_reducible apply zB); exact rfl; exact rfl)))
    exact ⟨i + 1, hin, by omega, (And.intro rfl (And.intro rfl (And.intro rfl (And.intro rfl (And.intro rfl trivial))))), (And.intro (congrArg (fun l => some (Blk.mk _ l)) (hul _ _ hrow)) trivial)⟩
  obtain ⟨g, hgg⟩ : ∃ g : Nat → Rg, g = fun j => rngM (ent A i j) (ent O j k) := ⟨_, rfl⟩
  have hMk : M k = sumR g n := by rw [hM, hgg]; rfl
  (repeat' (first | (with_reducible first | intro hg | refine mv (by constructor) ?_) | ((with_reducible first | refine zR ?_ ?_ | refine zW mixed ?_ ?_); exact kr) | ((with_reducible apply zK); exact rfl; exact tf) | ((with_reducible apply zCD); exact rfl) | ((with_reducible apply zCN); exact rfl) | ((with_reducible apply zC); exact rfl) | ((with_reducible refine zX ?_ ?_); exact rfl) | ((with_reducible refine zE (And.intro ?_ ?_)); exact kr) | (with_reducible refine zE ?_) | ((with_reducible apply zP); exact dp) | ((with_reducible apply zN); exact dn) | ((with_reducible apply zA); exact da) | ((with_reducible apply zS); exact ds) | ((with_reducible apply zY); exact rfl; exact rfl; exact tf) | ((with_reducible apply zG); exact rfl; exact rfl; exact tf) | ((with_reducible apply zU); exact rfl; exact rfl) | ((with_reducible apply zD); exact rfl; exact rfl) | ((with_reducible apply zB); exact rfl; exact rfl)))
  refine awp_loopL (α := Nat) (fun j => [(0, .d (mxV A)), (1, .d (mxV O)), (5, .lsl 12 0 n 1), (6, .d (I i)), (7, .d (I k)), (14, .d (I n)), (15, .d (I i)), (25, .d (I n)), (26, .d (I k)), (30, .d (I n)), (31, .d (I j)), (PN, linkP b cap 2)]) (fun j => [(12, ⟨22, D.set i (linkC b cap n)⟩), (PN, ⟨64, rgS (rwP M n k (sumR g j))⟩)]) (fun j => j ≤ n) (fun j => n - j) 0 (Nat.zero_le _) (And.intro rfl (And.intro rfl (And.intro rfl (And.intro rfl (And.intro rfl (And.intro rfl (And.intro rfl (And.intro rfl (And.intro rfl (And.intro (hnI) (And.intro (rfl) (And.intro (rfl) trivial)))))))))))) (And.intro rfl (And.intro rfl trivial)) fun j hj => ?_
  by_cases hjn : j < n
  rotate_left
  · obtain rfl : j = n := by omega
    rw [← hMk, rwP_next]
    (repeat' (first | (with_reducible first | intro hg | refine mv (by constructor) ?_) | ((with_reducible first | refine zR ?_ ?_ | refine zW mixed ?_ ?_); exact kr) | ((with_reducible apply zK); exact rfl; exact tf) | ((with_reducible apply zCD); exact rfl) | ((with_reducible apply zCN); exact rfl) | ((with_reducible apply zC); exact rfl) | ((with_reducible refine zX ?_ ?_); exact rfl) | ((with_reducible refine zE (And.intro ?_ ?_)); exact kr) | (with_reducible refine zE ?_) | ((with_reducible apply zP); exact dp) | ((with_reducible apply zN); exact dn) | ((with_reducible apply zA); exact da) | ((with_reducible apply zS); exact ds) | ((with_reducible apply zY); exact rfl; exact rfl; exact tf) | ((with_reducible apply zG); exact rfl; exact rfl; exact tf) | ((with_reducible apply zU); exact rfl; exact rfl) | ((with_reducible apply zD); exact rfl; exact rfl) | ((with_reducible apply zB); exact rfl; exact rfl)))
    exact ⟨k + 1, hkn, by omega, (And.intro rfl (And.intro rfl (And.intro rfl (And.intro rfl (And.intro rfl (And.intro rfl (And.intro rfl (And.intro rfl (And.intro rfl trivial))))))))), (And.intro rfl (And.intro rfl trivial))⟩
  have hOj := hO.2 j hjn
  have hOl := hO.1
  have wrg := ranged_A (ent A i j) (ent O j k) (A := 10) (B := K) (by omega) (bA i j).1 (bA i j).2 (bO j k).1 (bO j k).2
  have hgj : g j = rngM (ent A i j) (ent O j k) := by rw [hgg]
  have bg : ∀ q, (g q).1.natAbs ≤ 10 * K ∧ (g q).2.natAbs ≤ 10 * K := fun q => by
    rw [hgg]
    exact rngM_bnd (bA i q).1 (bA i q).2 (bO q k).1 (bO q k).2
  have bs := sumR_bnd (f := g) (K := 10 * K) (n := j) fun q _ => bg q
  have hj10 : j * (10 * K) ≤ 3 * (10 * K) := Nat.mul_le_mul_right _ (by omega)
  have bg := bg j
  have hs : sumR g (j + 1) = ((sumR g j).1 + (g j).1, (sumR g j).2 + (g j).2) := rfl
  rw [← hgj] at wrg
  generalize sumR g j = p at *
  generalize g j = r at *
  have p1 : -300000000000 ≤ p.1 ∧ p.1 ≤ 300000000000 := by omega
  have p2 : -300000000000 ≤ p.2 ∧ p.2 ≤ 300000000000 := by omega
  have r1 : -100000000000 ≤ r.1 ∧ r.1 ≤ 100000000000 := by omega
  have r2 : -100000000000 ≤ r.2 ∧ r.2 ≤ 100000000000 := by omega
  have hq := rwP_get M hkn p
  have hq0 : (frC ((rwP M n k p).getD k rg0))[0]? = some (I p.1) := by rw [hq]; rfl
  have hq1 : (frC ((rwP M n k p).getD k rg0))[1]? = some (I p.2) := by rw [hq]; rfl
  have hset : (rwP M n k p).set k (p.1 + r.1, p.2 + r.2) = rwP M n k (sumR g (j + 1)) := by rw [hs]; exact rwP_set M hkn p _
  have hpl := rwP_len M n k p
  generalize rwP M n k p = W at *
  clear bA bO bg bs hs hgj hMk hgg hM hfi hul hg' hfl hend hf hj10
  (repeat' (first | (with_reducible first | intro hg | refine mv (by constructor) ?_) | ((with_reducible first | refine zR ?_ ?_ | refine zW mixed ?_ ?_); exact kr) | ((with_reducible apply zK); exact rfl; exact tf) | ((with_reducible apply zCD); exact rfl) | ((with_reducible apply zCN); exact rfl) | ((with_reducible apply zC); exact rfl) | ((with_reducible refine zX ?_ ?_); exact rfl) | ((with_reducible refine zE (And.intro ?_ ?_)); exact kr) | (with_reducible refine zE ?_) | ((with_reducible apply zP); (first | exact o_loadLk (L := PN) (sz := 2) rfl rfl (by exact hg _) rfl (by rfl) (by exact hb1) (by exact hb2) | exact o_indexL (o := i) rfl rfl (by omega) (by omega) (by omega) | exact o_indexL (o := k * 2) rfl rfl (by omega) (by omega) (by omega) | exact o_loadF (v := I p.1) rg0 k 0 frC_len rfl rfl rfl (by omega) (by decide) (by exact hq0) | exact o_loadF (v := I p.2) rg0 k 1 frC_len rfl rfl rfl (by omega) (by decide) (by exact hq1) | exact o_indexF [] (f := fun r => [rgV r]) rw1_len (by decide) rfl rfl (by omega) rfl | exact o_indexF rg0 frC_len (by decide) rfl rfl (by omega) rfl | exact dp | exact oc rfl (wrg))) | ((with_reducible apply zN); exact dn) | ((with_reducible apply zA); exact da) | ((with_reducible apply zS); (first | exact o_storeFA (f := frC) k (p.1 + r.1, p.2 + r.2) frC_len rfl rfl rfl (by omega) (by omega) | exact ds)) | ((with_reducible apply zY); exact rfl; exact rfl; exact tf) | ((with_reducible apply zG); exact rfl; exact rfl; exact tf) | ((with_reducible apply zU); exact rfl; exact rfl) | ((with_reducible apply zD); exact rfl; exact rfl) | ((with_reducible apply zB); exact rfl; exact rfl)))
  exact ⟨j + 1, hjn, by omega, (And.intro rfl (And.intro rfl (And.intro rfl (And.intro rfl (And.intro rfl (And.intro rfl (And.intro rfl (And.intro rfl (And.intro rfl (And.intro rfl (And.intro rfl (And.intro rfl trivial)))))))))))), (And.intro rfl (And.intro (congrArg (fun l => some (Blk.mk _ (rgS l))) hset) trivial))⟩

end Go.Proofs.YtfcfmpdpjmbcnaaGreatDoor
