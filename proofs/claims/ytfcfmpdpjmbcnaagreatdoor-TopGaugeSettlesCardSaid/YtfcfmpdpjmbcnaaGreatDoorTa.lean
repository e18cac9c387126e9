/- Matrices: the matrix of a tick, powers. -/
import Derived.Test.YtfcfmpdpjmbcnaaGreatDoorUz
set_option linter.unusedVariables false
set_option linter.unusedSimpArgs false
namespace Go.Proofs.YtfcfmpdpjmbcnaaGreatDoor
open Go.RowKit
set_option maxRecDepth 20000
set_option maxHeartbeats 8000000

theorem clone_A (B : List Rg) (h0 : 0 < B.length) (hm : B.length ≤ 1000000) : ACo Tryz.prog 170 [rgV B] 64 B.length 2 (rgS B) := by
  have hl := rgS_len B
  have h : ACo Tryz.prog 170 [rgV B] 64 (0 + B.length) 2 ([] ++ rgS B) := by
    have hne : rgS B ≠ [] := fun h => by rw [h] at hl; simp at hl; omega
    refine aco_body Tryz.func170 rfl (by kernel_rfl) fun w0 ok => ?_; show AWp _ (ctx0 w0 ok _) _ (ARetO _ _ _ _ _) (entry _)
    (repeat' (first | (with_reducible first | intro hg | refine mv (by constructor) ?_) | ((with_reducible first | refine zR ?_ ?_ | refine zW mixed ?_ ?_); exact kr) | ((with_reducible apply zK); exact rfl; exact tf) | ((with_reducible apply zCD); exact rfl) | ((with_reducible apply zCN); exact rfl) | ((with_reducible apply zC); exact rfl) | ((with_reducible refine zX ?_ ?_); exact rfl) | ((with_reducible refine zE (And.intro ?_ ?_)); exact kr) | (with_reducible refine zE ?_) | ((with_reducible apply zP); exact dp) | ((with_reducible apply zN); exact dn) | ((with_reducible apply zA); (first | ((apply o_app); (case hx => exact rfl); (case hm => exact rfl); (case hy => exact .own rfl rfl); (case hty => exact rfl); (case hl => solve | exact hl | rfl); (case hcl => solve | rfl | exact hl | simp); (case hpos => omega); (case hb => omega); (case hb2 => omega); (case hnew => exact rfl)) | ((apply o_app); (case hx => exact rfl); (case hm => exact rfl); (case hy => exact .sl rfl); (case hty => exact rfl); (case hl => solve | exact hl | rfl); (case hcl => solve | rfl | exact hl | simp); (case hpos => omega); (case hb => omega); (case hb2 => omega); (case hnew => exact rfl)) | exact da)) | ((with_reducible apply zS); exact ds) | ((with_reducible apply zY); exact rfl; exact rfl; exact tf) | ((with_reducible apply zG); exact rfl; exact rfl; exact tf) | ((with_reducible apply zU); exact rfl; exact rfl) | ((with_reducible apply zD); exact rfl; exact rfl) | ((with_reducible apply zB); exact rfl; exact rfl)))
    ((with_reducible first | apply q_retO | apply q_retON); exact rfl; exact rfl; exact rfl)
  rwa [Nat.zero_add, List.nil_append] at h
theorem mxS_eq : ∀ A : Ml, mxS A = A.map rgV
  | [] => rfl
  | r :: A => by
    show [rgV r] ++ mxS A = _
    rw [mxS_eq A]; rfl
theorem map_set {α : Type} (f : Nat → α) {n k : Nat} (h : k < n) (z : α) : ((List.range n).map f).set k z = (List.range n).map fun q => bif q == k then z else f q := by
  refine List.ext_getElem (by simp) fun i h1 h2 => ?_
  rw [List.getElem_set]
  by_cases e : k = i
  · subst e; simp
  · rw [if_neg e]
    simp only [List.getElem_map, List.getElem_range]
    rw [show (i == k) = false by simp; omega]; rfl
theorem map_get {α : Type} (f : Nat → α) {n k : Nat} (h : k < n) : ((List.range n).map f)[k]? = some (f k) := by
  rw [List.getElem?_map, List.getElem?_range h]; rfl
theorem map_cong {α : Type} {f g : Nat → α} {n : Nat} (h : ∀ q, q < n → f q = g q) : (List.range n).map f = (List.range n).map g := List.map_congr_left fun q hq => h q (List.mem_range.1 hq)
def tkR (c : List Rg) (den : Int) (k i : Nat) : Nat → Rg := bif decide (i ≤ k) then unM i else tkM c den i
def tkD (c : List Rg) (den : Int) (n k : Nat) : List DV := (List.range n).map fun i => rgV (lsR (tkR c den k i) n)
theorem tkD_len (c : List Rg) (den : Int) (n k : Nat) : (tkD c den n k).length = n := by simp [tkD]
theorem tkD_start (c : List Rg) (den : Int) (n : Nat) : mxS (mkL n unM) = tkD c den n (n - 1) := by
  rw [mxS_eq]
  unfold mkL tkD
  rw [List.map_map]
  refine map_cong fun q hq => ?_
  unfold tkR
  rw [decide_eq_true (by omega)]; rfl
theorem tkD_get (c : List Rg) (den : Int) {n k i : Nat} (hi : i < n) (h : i ≤ k) : (tkD c den n k)[i]? = some (rgV (lsR (unM i) n)) := by
  unfold tkD
  rw [map_get _ hi]
  unfold tkR
  rw [decide_eq_true h]; rfl
theorem tkD_set (c : List Rg) (den : Int) {n k : Nat} (h : k + 1 < n) : (tkD c den n (k + 1)).set (k + 1) (rgV (lsR (tkM c den (k + 1)) n)) = tkD c den n k := by
  unfold tkD
  rw [map_set _ h]
  refine map_cong fun q hq => ?_
  by_cases e : q = k + 1
  · subst e
    unfold tkR
    rw [decide_eq_false (show ¬ (k + 1 ≤ k) by omega)]
    simp
  · rw [show (q == k + 1) = false by simp [e]]
    unfold tkR
    by_cases hq : q ≤ k
    · rw [decide_eq_true hq, decide_eq_true (by omega)]; rfl
    · rw [decide_eq_false hq, decide_eq_false (by omega)]; rfl
theorem lsR_getD : ∀ c : List Rg, lsR (fun j => c.getD j rg0) c.length = c := fun c => by
  refine List.ext_getElem (by simp [lsR]) fun i h1 h2 => ?_
  simp [lsR, h2]
theorem tkD_end (c : List Rg) (den : Int) (h0 : 0 < c.length) : (tkD c den c.length 0).set 0 (rgV c) = mxS (mkL c.length (tkM c den)) := by
  rw [mxS_eq]
  unfold tkD mkL
  rw [map_set _ h0, List.map_map]
  refine map_cong fun q hq => ?_
  by_cases e : q = 0
  · subst e
    show rgV c = rgV (lsR (fun j => c.getD j rg0) c.length)
    rw [lsR_getD]
  · rw [show (q == 0) = false by simp [e]]
    unfold tkR
    rw [decide_eq_false (by omega)]; rfl
def rwT (den : Int) (m n i : Nat) : List Rg := lsR (fun q => bif decide (q < i) then (bif m == q then (den, den) else (0, 0)) else unM m q) n
theorem rwT_len (den : Int) (m n i : Nat) : (rwT den m n i).length = n := lsR_length _ _
theorem rwT_zero (den : Int) (m n : Nat) : lsR (unM m) n = rwT den m n 0 := lsR_congr fun q _ => by rw [decide_eq_false (Nat.not_lt_zero q)]; rfl
theorem rwT_end (c : List Rg) (den : Int) (m n : Nat) : rwT den m n n = lsR (tkM c den (m + 1)) n := lsR_congr fun q h => by rw [decide_eq_true h]; rfl
theorem rwT_get (den : Int) (m : Nat) {n i : Nat} (h : i < n) : (rwT den m n i).getD i rg0 = unM m i := by
  unfold rwT
  rw [lsR_get _ h, decide_eq_false (Nat.lt_irrefl i)]; rfl
theorem rwT_set (den : Int) (m : Nat) {n i : Nat} (h : i < n) : (rwT den m n i).set i ((unM m i).1 * den, (unM m i).2 * den) = rwT den m n (i + 1) := by
  unfold rwT
  rw [lsR_set _ h]
  refine lsR_congr fun q _ => ?_
  by_cases e : q = i
  · subst e
    rw [decide_eq_true (Nat.lt_succ_self q)]
    simp only [BEq.rfl, cond_true]
    unfold unM
    cases m == q
    · simp
    · simp
  · rw [show (q == i) = false by simp [e]]
    by_cases hq : q < i
    · rw [decide_eq_true hq, decide_eq_true (by omega)]; rfl
    · rw [decide_eq_false hq, decide_eq_false (by omega)]; rfl
theorem tick_A (c : List Rg) (den : Int) (h : LoopOk c den) : AC Tryz.prog 143 [.agg [rgV c, I den]] (mxV (mkL c.length (tkM c den))) := by
  obtain ⟨h1, h3, _, hd⟩ := h
  have hu := unit_A c.length (by omega)
  have hen := tkD_end c den h1
  have hcl := clone_A c h1 (by omega)
  have hrl := rgS_len c
  rw [tkD_start c den] at hu
  have hml : (mkL c.length (tkM c den)).length = c.length := by simp [mkL]
  have hml2 := mxS_len (mkL c.length (tkM c den))
  rw [hml] at hml2
  obtain ⟨n, hn⟩ : ∃ n, n = c.length := ⟨_, rfl⟩
  refine ac_body Tryz.func143 rfl (by kernel_rfl) fun w0 ok => ?_; show AWp _ (ctx0 w0 ok _) _ (ARet _ _ _) (entry _)
  (repeat' (first | (with_reducible first | intro hg | refine mv (by constructor) ?_) | ((with_reducible first | refine zR ?_ ?_ | refine zW mixed ?_ ?_); exact kr) | ((with_reducible apply zK); exact rfl; exact tf) | ((with_reducible apply zCD); exact rfl) | ((with_reducible apply zCN); exact rfl) | ((with_reducible apply zC); exact rfl) | ((with_reducible refine zX ?_ ?_); exact rfl) | ((with_reducible refine zE (And.intro ?_ ?_)); exact kr) | (with_reducible refine zE ?_) | ((with_reducible apply zP); exact dp) | ((with_reducible apply zN); (first | exact dn | exact o_callO rfl hu (.inl rfl))) | ((with_reducible apply zA); exact da) | ((with_reducible apply zS); exact ds) | ((with_reducible apply zY); exact rfl; exact rfl; exact tf) | ((with_reducible apply zG); exact rfl; exact rfl; exact tf) | ((with_reducible apply zU); exact rfl; exact rfl) | ((with_reducible apply zD); exact rfl; exact rfl) | ((with_reducible apply zB); exact rfl; exact rfl)))
  refine awp_loopL (α := Nat) (fun k => [(1, .ptr 1 0), (3, .lsl 10 0 c.length 1), (4, .d (I k))]) (fun k => [(1, ⟨101, [rgV c, I den]⟩), (10, ⟨22, tkD c den c.length k⟩)]) (fun k => k < c.length) (fun k => k) (c.length - 1) (by omega) (And.intro rfl (And.intro rfl (And.intro (congrArg (fun n : Int => AV.d (I n)) (by omega)) trivial))) (And.intro rfl (And.intro rfl trivial)) fun k hk => ?_
  have hlen := tkD_len c den c.length k
  rcases k with _ | k
  · (repeat' ((fail_if_success (with_reducible show AWp _ _ (.region 11 _ _) _ _)); (first | (with_reducible first | intro hg | refine mv (by constructor) ?_) | ((with_reducible first | refine zR ?_ ?_ | refine zW mixed ?_ ?_); exact kr) | ((with_reducible apply zK); exact rfl; exact tf) | ((with_reducible apply zCD); exact rfl) | ((with_reducible apply zCN); exact rfl) | ((with_reducible apply zC); exact rfl) | ((with_reducible refine zX ?_ ?_); exact rfl) | ((with_reducible refine zE (And.intro ?_ ?_)); exact kr) | (with_reducible refine zE ?_) | ((with_reducible apply zP); exact dp) | ((with_reducible apply zN); exact dn) | ((with_reducible apply zA); exact da) | ((with_reducible apply zS); exact ds) | ((with_reducible apply zY); exact rfl; exact rfl; exact tf) | ((with_reducible apply zG); exact rfl; exact rfl; exact tf) | ((with_reducible apply zU); exact rfl; exact rfl) | ((with_reducible apply zD); exact rfl; exact rfl) | ((with_reducible apply zB); exact rfl; exact rfl))))
    generalize tkD c den c.length 0 = D at *
    refine awp_regionL ?_
    ((refine wpl_run (l1 := [_, _, _, _, _, _]) rfl ?_ ?_); exact kr; (repeat' (first | (with_reducible first | intro hg | refine mv (by constructor) ?_) | ((with_reducible first | refine zR ?_ ?_ | refine zW mixed ?_ ?_); exact kr) | ((with_reducible apply zK); exact rfl; exact tf) | ((with_reducible apply zCD); exact rfl) | ((with_reducible apply zCN); exact rfl) | ((with_reducible apply zC); exact rfl) | ((with_reducible refine zX ?_ ?_); exact rfl) | ((with_reducible refine zE (And.intro ?_ ?_)); exact kr) | (with_reducible refine zE ?_) | ((with_reducible apply zP); (first | exact o_indexL (o := 0) rfl rfl (by decide) (by omega) rfl | exact dp)) | ((with_reducible apply zN); (first | exact dn | exact o_callO rfl hcl (.inl rfl))) | ((with_reducible apply zA); exact da) | ((with_reducible apply zS); exact ds) | ((with_reducible apply zY); exact rfl; exact rfl; exact tf) | ((with_reducible apply zG); exact rfl; exact rfl; exact tf) | ((with_reducible apply zU); exact rfl; exact rfl) | ((with_reducible apply zD); exact rfl; exact rfl) | ((with_reducible apply zB); exact rfl; exact rfl))))
    refine wpl_turn (turns_pin 71 71 PN (by rfl) (by rfl) (by rfl) (by rfl) (by kernel_rfl)) fun x => ?_
    ((refine wpl_run (l1 := [_]) rfl ?_ ?_); exact kr; (repeat' (first | (with_reducible first | intro hg | refine mv (by constructor) ?_) | ((with_reducible first | refine zR ?_ ?_ | refine zW mixed ?_ ?_); exact kr) | ((with_reducible apply zK); exact rfl; exact tf) | ((with_reducible apply zCD); exact rfl) | ((with_reducible apply zCN); exact rfl) | ((with_reducible apply zC); exact rfl) | ((with_reducible refine zX ?_ ?_); exact rfl) | ((with_reducible refine zE (And.intro ?_ ?_)); exact kr) | (with_reducible refine zE ?_) | ((with_reducible apply zP); exact dp) | ((with_reducible apply zN); exact dn) | ((with_reducible apply zA); exact da) | ((with_reducible apply zS); (first | exact o_storeD rfl rfl rfl rfl (by omega) | exact ds)) | ((with_reducible apply zY); exact rfl; exact rfl; exact tf) | ((with_reducible apply zG); exact rfl; exact rfl; exact tf) | ((with_reducible apply zU); exact rfl; exact rfl) | ((with_reducible apply zD); exact rfl; exact rfl) | ((with_reducible apply zB); exact rfl; exact rfl))))
    refine wpl_nil ?_
    refine awp_turn (turns_unlink 10 0 PN (by rfl) (List.getElem?_set_self (by omega)) (by rfl) (by rfl) (by rfl) (by decide) x.2.1 x.2.2) fun _ => ?_
    refine awp_freeze 10 rfl ?_
    (repeat' (first | (with_reducible first | intro hg | refine mv (by constructor) ?_) | ((with_reducible first | refine zR ?_ ?_ | refine zW mixed ?_ ?_); exact kr) | ((with_reducible apply zK); exact rfl; exact tf) | ((with_reducible apply zCD); exact rfl) | ((with_reducible apply zCN); exact rfl) | ((with_reducible apply zC); exact rfl) | ((with_reducible refine zX ?_ ?_); exact rfl) | ((with_reducible refine zE (And.intro ?_ ?_)); exact kr) | (with_reducible refine zE ?_) | ((with_reducible apply zP); exact dp) | ((with_reducible apply zN); exact dn) | ((with_reducible apply zA); exact da) | ((with_reducible apply zS); exact ds) | ((with_reducible apply zY); exact rfl; exact rfl; exact tf) | ((with_reducible apply zG); exact rfl; exact rfl; exact tf) | ((with_reducible apply zU); exact rfl; exact rfl) | ((with_reducible apply zD); exact rfl; exact rfl) | ((with_reducible apply zB); exact rfl; exact rfl)))
    ((with_reducible first | apply q_retR | apply q_retN); exact rl)
    show DV.slice (mkL c.length (tkM c den)).length _ = DV.slice c.length ((((D.set 0 _).set 0 (.slice c.length ((rgS c).take (c.length * 2)))).drop 0).take (c.length * 1))
    have e1 : (rgS c).take (c.length * 2) = rgS c := List.take_of_length_le (by omega)
    rw [hml, List.set_set, e1, List.drop_zero]
    show _ = DV.slice c.length ((D.set 0 (rgV c)).take (c.length * 1))
    rw [hen, List.take_of_length_le (by omega)]
  have hgk := tkD_get c den (n := c.length) (k := k + 1) (i := k) (by omega) (by omega)
  have hset := tkD_set c den hk
  have hcl2 := clone_A (lsR (unM k) c.length) (by rw [lsR_length]; exact h1) (by rw [lsR_length]; omega)
  rw [lsR_length] at hcl2
  generalize tkD c den c.length (k + 1) = D at *
  (repeat' ((fail_if_success (with_reducible show AWp _ _ (.region 5 _ _) _ _)); (first | (with_reducible first | intro hg | refine mv (by constructor) ?_) | ((with_reducible first | refine zR ?_ ?_ | refine zW mixed ?_ ?_); exact kr) | ((with_reducible apply zK); exact rfl; exact tf) | ((with_reducible apply zCD); exact rfl) | ((with_reducible apply zCN); exact rfl) | ((with_reducible apply zC); exact rfl) | ((with_reducible refine zX ?_ ?_); exact rfl) | ((with_reducible refine zE (And.intro ?_ ?_)); exact kr) | (with_reducible refine zE ?_) | ((with_reducible apply zP); exact dp) | ((with_reducible apply zN); exact dn) | ((with_reducible apply zA); exact da) | ((with_reducible apply zS); exact ds) | ((with_reducible apply zY); exact rfl; exact rfl; exact tf) | ((with_reducible apply zG); exact rfl; exact rfl; exact tf) | ((with_reducible apply zU); exact rfl; exact rfl) | ((with_reducible apply zD); exact rfl; exact rfl) | ((with_reducible apply zB); exact rfl; exact rfl))))
  refine awp_regionL ?_
  ((refine wpl_run (l1 := [_, _, _, _, _, _, _, _, _]) rfl ?_ ?_); exact kr; (repeat' (first | (with_reducible first | intro hg | refine mv (by constructor) ?_) | ((with_reducible first | refine zR ?_ ?_ | refine zW mixed ?_ ?_); exact kr) | ((with_reducible apply zK); exact rfl; exact tf) | ((with_reducible apply zCD); exact rfl) | ((with_reducible apply zCN); exact rfl) | ((with_reducible apply zC); exact rfl) | ((with_reducible refine zX ?_ ?_); exact rfl) | ((with_reducible refine zE (And.intro ?_ ?_)); exact kr) | (with_reducible refine zE ?_) | ((with_reducible apply zP); (first | exact o_indexL (o := k) rfl rfl (by omega) (by omega) (by omega) | exact o_indexL (o := k + 1) rfl rfl (by omega) (by omega) (by omega) | exact o_loadD rfl rfl (by exact hgk) | exact dp)) | ((with_reducible apply zN); (first | exact dn | exact o_callO rfl hcl2 (.inl rfl))) | ((with_reducible apply zA); exact da) | ((with_reducible apply zS); exact ds) | ((with_reducible apply zY); exact rfl; exact rfl; exact tf) | ((with_reducible apply zG); exact rfl; exact rfl; exact tf) | ((with_reducible apply zU); exact rfl; exact rfl) | ((with_reducible apply zD); exact rfl; exact rfl) | ((with_reducible apply zB); exact rfl; exact rfl))))
  refine wpl_turn (turns_pin 25 25 PN (by rfl) (by rfl) (by rfl) (by rfl) (by kernel_rfl)) fun x => ?_
  ((refine wpl_run (l1 := [_]) rfl ?_ ?_); exact kr; (repeat' (first | (with_reducible first | intro hg | refine mv (by constructor) ?_) | ((with_reducible first | refine zR ?_ ?_ | refine zW mixed ?_ ?_); exact kr) | ((with_reducible apply zK); exact rfl; exact tf) | ((with_reducible apply zCD); exact rfl) | ((with_reducible apply zCN); exact rfl) | ((with_reducible apply zC); exact rfl) | ((with_reducible refine zX ?_ ?_); exact rfl) | ((with_reducible refine zE (And.intro ?_ ?_)); exact kr) | (with_reducible refine zE ?_) | ((with_reducible apply zP); exact dp) | ((with_reducible apply zN); exact dn) | ((with_reducible apply zA); exact da) | ((with_reducible apply zS); (first | exact o_storeD rfl rfl rfl rfl (by omega) | exact ds)) | ((with_reducible apply zY); exact rfl; exact rfl; exact tf) | ((with_reducible apply zG); exact rfl; exact rfl; exact tf) | ((with_reducible apply zU); exact rfl; exact rfl) | ((with_reducible apply zD); exact rfl; exact rfl) | ((with_reducible apply zB); exact rfl; exact rfl))))
  refine wpl_nil ?_
  obtain ⟨⟨b, cap⟩, hb1, hb2⟩ := x
  have hb1 : c.length ≤ cap := hb1
  have hb2 : cap ≤ maxLen := hb2
  have hg (v : DV) : ((D.set (k + 1) v).drop (k + 1))[0]? = some v := by rw [List.getElem?_drop, Nat.add_zero, List.getElem?_set_self (by omega)]
  have hg' (v : DV) : (D.set (k + 1) v)[k + 1]? = some v := List.getElem?_set_self (by omega)
  (repeat' (first | (with_reducible first | intro hg | refine mv (by constructor) ?_) | ((with_reducible first | refine zR ?_ ?_ | refine zW mixed ?_ ?_); exact kr) | ((with_reducible apply zK); exact rfl; exact tf) | ((with_reducible apply zCD); exact rfl) | ((with_reducible apply zCN); exact rfl) | ((with_reducible apply zC); exact rfl) | ((with_reducible refine zX ?_ ?_); exact rfl) | ((with_reducible refine zE (And.intro ?_ ?_)); exact kr) | (with_reducible refine zE ?_) | ((with_reducible apply zP); (first | exact o_loadLk (L := PN) (sz := 2) rfl rfl (by exact hg _) rfl (by rfl) (by exact hb1) (by exact hb2) | exact o_indexL (o := k + 1) rfl rfl (by omega) (by omega) (by omega) | exact dp)) | ((with_reducible apply zN); exact dn) | ((with_reducible apply zA); exact da) | ((with_reducible apply zS); exact ds) | ((with_reducible apply zY); exact rfl; exact rfl; exact tf) | ((with_reducible apply zG); exact rfl; exact rfl; exact tf) | ((with_reducible apply zU); exact rfl; exact rfl) | ((with_reducible apply zD); exact rfl; exact rfl) | ((with_reducible apply zB); exact rfl; exact rfl)))
  refine awp_loopL (α := Nat) (fun i => [(1, .ptr 1 0), (3, .lsl 10 0 c.length 1), (4, .d (I (k + 1 : Nat))), (31, .d (I c.length)), (32, .d (I i)), (PN, linkP b cap 2)]) (fun i => [(1, ⟨101, [rgV c, I den]⟩), (10, ⟨22, D.set (k + 1) (linkC b cap c.length)⟩), (PN, ⟨64, rgS (rwT den k c.length i)⟩)]) (fun i => i ≤ c.length) (fun i => c.length - i) 0 (Nat.zero_le _) (And.intro rfl (And.intro rfl (And.intro rfl (And.intro rfl (And.intro rfl (And.intro rfl trivial)))))) (And.intro rfl (And.intro rfl (And.intro (congrArg (fun l => some (Blk.mk _ (rgS l))) (rwT_zero _ _ _)) trivial))) fun i hi => ?_
  by_cases hin : i < c.length
  · have hq := rwT_get den k hin
    have hwl := rwT_len den k c.length i
    have hsi := rwT_set den k hin
    have hu1 : -10 ≤ (unM k i).1 * den ∧ (unM k i).1 * den ≤ 10 := by
      unfold unM
      cases k == i
      · simp
      · simp; omega
    have hu2 : -10 ≤ (unM k i).2 * den ∧ (unM k i).2 * den ≤ 10 := by
      unfold unM
      cases k == i
      · simp
      · simp; omega
    generalize unM k i = u at *
    have hq0 : (frC ((rwT den k c.length i).getD i rg0))[0]? = some (I u.1) := by rw [hq]; rfl
    have hq1 : (frC ((rwT den k c.length i).getD i rg0))[1]? = some (I u.2) := by rw [hq]; rfl
    generalize rwT den k c.length i = W at *
    (repeat' (first | (with_reducible first | intro hg | refine mv (by constructor) ?_) | ((with_reducible first | refine zR ?_ ?_ | refine zW mixed ?_ ?_); exact kr) | ((with_reducible apply zK); exact rfl; exact tf) | ((with_reducible apply zCD); exact rfl) | ((with_reducible apply zCN); exact rfl) | ((with_reducible apply zC); exact rfl) | ((with_reducible refine zX ?_ ?_); exact rfl) | ((with_reducible refine zE (And.intro ?_ ?_)); exact kr) | (with_reducible refine zE ?_) | ((with_reducible apply zP); (first | exact o_loadLk (L := PN) (sz := 2) rfl rfl (by exact hg _) rfl (by rfl) (by exact hb1) (by exact hb2) | exact o_indexL (o := k + 1) rfl rfl (by omega) (by omega) (by omega) | exact o_indexL (o := i * 2) rfl rfl (by omega) (by omega) (by omega) | exact o_loadF (v := I u.1) rg0 i 0 frC_len rfl rfl rfl (by omega) (by decide) (by exact hq0) | exact o_loadF (v := I u.2) rg0 i 1 frC_len rfl rfl rfl (by omega) (by decide) (by exact hq1) | exact dp)) | ((with_reducible apply zN); exact dn) | ((with_reducible apply zA); exact da) | ((with_reducible apply zS); (first | exact o_storeFA (f := frC) i (u.1 * den, u.2 * den) frC_len rfl rfl rfl (by omega) (by omega) | exact ds)) | ((with_reducible apply zY); exact rfl; exact rfl; exact tf) | ((with_reducible apply zG); exact rfl; exact rfl; exact tf) | ((with_reducible apply zU); exact rfl; exact rfl) | ((with_reducible apply zD); exact rfl; exact rfl) | ((with_reducible apply zB); exact rfl; exact rfl)))
    exact ⟨i + 1, hin, by omega, (And.intro rfl (And.intro rfl (And.intro rfl (And.intro rfl (And.intro rfl (And.intro rfl trivial)))))), (And.intro rfl (And.intro rfl (And.intro (congrArg (fun l => some (Blk.mk _ (rgS l))) hsi) trivial)))⟩
  · obtain rfl : i = c.length := by omega
    have hwl := rgS_len (rwT den k c.length c.length)
    rw [rwT_len] at hwl
    have hfin (v : DV) : ((D.set (k + 1) v).set (k + 1) (.slice c.length ((rgS (rwT den k c.length c.length)).take (c.length * 2)))) = tkD c den c.length k := by
      rw [List.set_set, List.take_of_length_le (by omega), rwT_end c, ← hset]
      show _ = D.set (k + 1) (.slice (lsR (tkM c den (k + 1)) c.length).length _)
      rw [lsR_length]
    (repeat' ((fail_if_success (with_reducible show AWp _ _ (.region 4 _ _) _ _)); (first | (with_reducible first | intro hg | refine mv (by constructor) ?_) | ((with_reducible first | refine zR ?_ ?_ | refine zW mixed ?_ ?_); exact kr) | ((with_reducible apply zK); exact rfl; exact tf) | ((with_reducible apply zCD); exact rfl) | ((with_reducible apply zCN); exact rfl) | ((with_reducible apply zC); exact rfl) | ((with_reducible refine zX ?_ ?_); exact rfl) | ((with_reducible refine zE (And.intro ?_ ?_)); exact kr) | (with_reducible refine zE ?_) | ((with_reducible apply zP); exact dp) | ((with_reducible apply zN); exact dn) | ((with_reducible apply zA); exact da) | ((with_reducible apply zS); exact ds) | ((with_reducible apply zY); exact rfl; exact rfl; exact tf) | ((with_reducible apply zG); exact rfl; exact rfl; exact tf) | ((with_reducible apply zU); exact rfl; exact rfl) | ((with_reducible apply zD); exact rfl; exact rfl) | ((with_reducible apply zB); exact rfl; exact rfl))))
    refine awp_turn (turns_unlink 10 (k + 1) PN (by rfl) (hg' _) (by rfl) (by rfl) (by rfl) (by decide) hb1 hb2) fun _ => ?_
    (repeat' (first | (with_reducible first | intro hg | refine mv (by constructor) ?_) | ((with_reducible first | refine zR ?_ ?_ | refine zW mixed ?_ ?_); exact kr) | ((with_reducible apply zK); exact rfl; exact tf) | ((with_reducible apply zCD); exact rfl) | ((with_reducible apply zCN); exact rfl) | ((with_reducible apply zC); exact rfl) | ((with_reducible refine zX ?_ ?_); exact rfl) | ((with_reducible refine zE (And.intro ?_ ?_)); exact kr) | (with_reducible refine zE ?_) | ((with_reducible apply zP); exact dp) | ((with_reducible apply zN); exact dn) | ((with_reducible apply zA); exact da) | ((with_reducible apply zS); exact ds) | ((with_reducible apply zY); exact rfl; exact rfl; exact tf) | ((with_reducible apply zG); exact rfl; exact rfl; exact tf) | ((with_reducible apply zU); exact rfl; exact rfl) | ((with_reducible apply zD); exact rfl; exact rfl) | ((with_reducible apply zB); exact rfl; exact rfl)))
    exact ⟨k, by omega, by omega, (And.intro rfl (And.intro rfl (And.intro (congrArg (fun n : Int => AV.d (I n)) (by omega)) trivial))), (And.intro rfl (And.intro (congrArg (fun l => some (Blk.mk _ l)) (hfin _)) trivial))⟩

theorem mkL_len (n : Nat) (M : Mx) : (mkL n M).length = n := by simp [mkL]
theorem ent_bnd {n K : Nat} {M : Mx} (h : BndM K M) : BndM K (ent (mkL n M)) := fun i j => by
  by_cases hi : i < n
  · by_cases hj : j < n
    · rw [mkL_ent M hi hj]; exact h i j
    · have : ent (mkL n M) i j = rg0 := by
        show ((mkL n M).getD i []).getD j rg0 = _
        rw [mkL_row M hi]
        exact rg_out (by rw [lsR_length]; exact hj)
      rw [this]; exact ⟨Nat.zero_le _, Nat.zero_le _⟩
  · have : ent (mkL n M) i j = rg0 := by
      have e : (mkL n M).getD i [] = [] := by
        rw [List.getD_eq_getElem?_getD, List.getElem?_eq_none (by rw [mkL_len]; omega)]; rfl
      show ((mkL n M).getD i []).getD j rg0 = _
      rw [e]; rfl
    rw [this]; exact ⟨Nat.zero_le _, Nat.zero_le _⟩
theorem power_A (c : List Rg) (den : Int) (h : LoopOk c den) (s : Nat) (hs : s ≤ 6) : AC Tryz.prog 103 [.agg [rgV c, I den], I s] (mxV (mkL c.length (powM c den c.length s))) := by
  have hu := unit_A c.length (by have := h.l3; omega)
  have ht := tick_A c den h
  have hml := mxS_len (mkL c.length unM)
  rw [mkL_len] at hml
  have he : AV.d (.slice c.length (((mxS (mkL c.length unM)).drop 0).take (c.length * 1))) = .d (mxV (mkL c.length (powM c den c.length 0))) := by
    rw [List.drop_zero, List.take_of_length_le (by omega)]
    show _ = AV.d (DV.slice (mkL c.length _).length _)
    rw [mkL_len]; rfl
  refine ac_body Tryz.func103 rfl (by kernel_rfl) fun w0 ok => ?_; show AWp _ (ctx0 w0 ok _) _ (ARet _ _ _) (entry _)
  (repeat' ((fail_if_success (with_reducible show AWp _ _ (.region 2 _ _) _ _)); (first | (with_reducible first | intro hg | refine mv (by constructor) ?_) | ((with_reducible first | refine zR ?_ ?_ | refine zW mixed ?_ ?_); exact kr) | ((with_reducible apply zK); exact rfl; exact tf) | ((with_reducible apply zCD); exact rfl) | ((with_reducible apply zCN); exact rfl) | ((with_reducible apply zC); exact rfl) | ((with_reducible refine zX ?_ ?_); exact rfl) | ((with_reducible refine zE (And.intro ?_ ?_)); exact kr) | (with_reducible refine zE ?_) | ((with_reducible apply zP); exact dp) | ((with_reducible apply zN); (first | exact dn | exact o_callO rfl hu (.inl rfl))) | ((with_reducible apply zA); exact da) | ((with_reducible apply zS); exact ds) | ((with_reducible apply zY); exact rfl; exact rfl; exact tf) | ((with_reducible apply zG); exact rfl; exact rfl; exact tf) | ((with_reducible apply zU); exact rfl; exact rfl) | ((with_reducible apply zD); exact rfl; exact rfl) | ((with_reducible apply zB); exact rfl; exact rfl))))
  refine awp_freeze 10 rfl ?_
  (repeat' (first | (with_reducible first | intro hg | refine mv (by constructor) ?_) | ((with_reducible first | refine zR ?_ ?_ | refine zW mixed ?_ ?_); exact kr) | ((with_reducible apply zK); exact rfl; exact tf) | ((with_reducible apply zCD); exact rfl) | ((with_reducible apply zCN); exact rfl) | ((with_reducible apply zC); exact rfl) | ((with_reducible refine zX ?_ ?_); exact rfl) | ((with_reducible refine zE (And.intro ?_ ?_)); exact kr) | (with_reducible refine zE ?_) | ((with_reducible apply zP); exact dp) | ((with_reducible apply zN); exact dn) | ((with_reducible apply zA); exact da) | ((with_reducible apply zS); exact ds) | ((with_reducible apply zY); exact rfl; exact rfl; exact tf) | ((with_reducible apply zG); exact rfl; exact rfl; exact tf) | ((with_reducible apply zU); exact rfl; exact rfl) | ((with_reducible apply zD); exact rfl; exact rfl) | ((with_reducible apply zB); exact rfl; exact rfl)))
  refine awp_loopL (α := Nat) (fun k => [(2, .ptr 2 0), (5, .d (mxV (mkL c.length (powM c den c.length k)))), (11, .d (I s)), (12, .d (I k))]) (fun _ => [(2, ⟨101, [rgV c, I den]⟩)]) (fun k => k ≤ s) (fun k => s - k) 0 (Nat.zero_le _) (And.intro rfl (And.intro (he) (And.intro (rfl) (And.intro (rfl) trivial)))) (And.intro rfl trivial) fun k hk => ?_
  by_cases hlt : k < s
  · have hb := powM_bnd h k
    have hw := times_A (mkL c.length (tkM c den)) (mkL c.length (powM c den c.length k)) (by rw [mkL_len]; exact mkL_sq _ _) (by rw [mkL_len]; exact mkL_sq _ _) (by rw [mkL_len]; exact h.l3) (K := 30 ^ k) (Nat.le_trans (pow30 (s := k) (by omega)) (by decide)) (ent_bnd (tkM_bnd h)) (ent_bnd hb)
    rw [mkL_len, mul_mkL] at hw
    (repeat' (first | (with_reducible first | intro hg | refine mv (by constructor) ?_) | ((with_reducible first | refine zR ?_ ?_ | refine zW mixed ?_ ?_); exact kr) | ((with_reducible apply zK); exact rfl; exact tf) | ((with_reducible apply zCD); exact rfl) | ((with_reducible apply zCN); exact rfl) | ((with_reducible apply zC); exact rfl) | ((with_reducible refine zX ?_ ?_); exact rfl) | ((with_reducible refine zE (And.intro ?_ ?_)); exact kr) | (with_reducible refine zE ?_) | ((with_reducible apply zP); (first | exact dp | exact oc rfl (ht) | exact oc rfl (hw))) | ((with_reducible apply zN); exact dn) | ((with_reducible apply zA); exact da) | ((with_reducible apply zS); exact ds) | ((with_reducible apply zY); exact rfl; exact rfl; exact tf) | ((with_reducible apply zG); exact rfl; exact rfl; exact tf) | ((with_reducible apply zU); exact rfl; exact rfl) | ((with_reducible apply zD); exact rfl; exact rfl) | ((with_reducible apply zB); exact rfl; exact rfl)))
    exact ⟨k + 1, hlt, by omega, (And.intro rfl (And.intro rfl (And.intro rfl (And.intro rfl trivial)))), (And.intro rfl trivial)⟩
  · obtain rfl : k = s := by omega
    exact zF

end Go.Proofs.YtfcfmpdpjmbcnaaGreatDoor
