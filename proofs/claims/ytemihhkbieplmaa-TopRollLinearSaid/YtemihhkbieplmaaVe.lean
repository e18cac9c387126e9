/- Whole numbers of any size: products. -/
import Derived.Test.YtemihhkbieplmaaVd
set_option linter.unusedVariables false
set_option linter.unusedSimpArgs false
namespace Go.Proofs.Ytemihhkbieplmaa
open Go.RowKit
set_option maxRecDepth 20000
set_option maxHeartbeats 8000000

theorem wval_set : ∀ (l : List Int) (i : Nat) (d : Int), i < l.length → wval (l.set i d) = wval l + (1000000000 : Int) ^ i * (d - nth l i)
  | x :: l, 0, d, _ => by
    show d + 1000000000 * wval l = x + 1000000000 * wval l + (1000000000 : Int) ^ 0 * (d - x)
    rw [Int.pow_zero]; omega
  | x :: l, i + 1, d, h => by
    show x + 1000000000 * wval (l.set i d) = x + 1000000000 * wval l + (1000000000 : Int) ^ (i + 1) * (d - nth l i)
    rw [wval_set l i d (by simpa using h), wpow_succ, Int.mul_add, Int.mul_assoc, Int.add_assoc]
theorem WDg.set {l : List Int} (h : WDg l) (i : Nat) {d : Int} (hd : 0 ≤ d ∧ d < 1000000000) : WDg (l.set i d) := fun x hx => by
  rcases List.mem_or_eq_of_mem_set hx with hx | rfl
  · exact h x hx
  · exact hd
theorem nth_set_ne {l : List Int} {i j : Nat} (h : i ≠ j) (d : Int) : nth (l.set i d) j = nth l j := by
  unfold nth
  rw [List.getD_eq_getElem?_getD, List.getD_eq_getElem?_getD, List.getElem?_set_ne h]
theorem mulB {a b : Int} (ha : 0 ≤ a ∧ a < 1000000000) (hb : 0 ≤ b ∧ b < 1000000000) : 0 ≤ a * b ∧ a * b ≤ 999999998000000001 := by
  have h1 : a * b ≤ a * 999999999 := Int.mul_le_mul_of_nonneg_left (by omega) ha.1
  have h2 : 0 ≤ a * b := Int.mul_nonneg ha.1 hb.1
  omega
/-- What is known between two digits of the first number. -/
def MulJ (m n : Nat) (k : Nat) (O : List Int) : Prop := WDg O ∧ O.length = (dg m).length + (dg n).length + 1 ∧ k ≤ (dg m).length ∧ (∀ j, k + (dg n).length ≤ j → nth O j = 0) ∧ ∃ u : Nat, (dg m).drop k = dg u ∧ wval O + (1000000000 : Int) ^ k * ((u : Int) * n) = ((m * n : Nat) : Int)
/-- .. and within a row. -/
def MulI (m n k : Nat) (W : Int) (j : Nat) (c : Int) (O : List Int) : Prop := WDg O ∧ O.length = (dg m).length + (dg n).length + 1 ∧ j ≤ (dg n).length ∧ (0 ≤ c ∧ c < 1000000000) ∧ (∀ i, k + (dg n).length ≤ i → nth O i = 0) ∧ ∃ v : Nat, (dg n).drop j = dg v ∧ wval O + (1000000000 : Int) ^ (k + j) * (nth (dg m) k * v + c) = W
theorem mulI_start {m n k : Nat} {O : List Int} (h : MulJ m n k O) : MulI m n k (wval O + (1000000000 : Int) ^ k * (nth (dg m) k * n)) 0 0 O := by
  obtain ⟨h1, h2, _, h3, _⟩ := h
  exact ⟨h1, h2, Nat.zero_le _, ⟨by decide, by decide⟩, h3, n, rfl, by rw [Int.add_zero, Nat.add_zero]⟩
theorem mulI_alg {w Z a b v o c s r q W : Int} (h : w + Z * (a * (b + 1000000000 * v) + c) = W) (hs : s = o + a * b + c) (hr : s = r + 1000000000 * q) : w + Z * (r - o) + 1000000000 * Z * (a * v + q) = W := by
  have e : a * (b + 1000000000 * v) + c = (r - o) + 1000000000 * (a * v + q) := by
    have : r = s - 1000000000 * q := by omega
    rw [this, hs]; grind
  rw [e] at h
  rw [← h]; grind
theorem mulI_step {m n k : Nat} {W : Int} {j : Nat} {c : Int} {O : List Int} (h : MulI m n k W j c O) (hj : j < (dg n).length) (hk : k < (dg m).length) : MulI m n k W (j + 1) ((nth O (k + j) + nth (dg m) k * nth (dg n) j + c) / 1000000000) (O.set (k + j) ((nth O (k + j) + nth (dg m) k * nth (dg n) j + c) % 1000000000)) := by
  obtain ⟨h1, h2, h3, h4, h5, v, h6, h7⟩ := h
  have b1 := h1.nth (k + j)
  have b2 := mulB ((dg_WDg m).nth k) ((dg_WDg n).nth j)
  have hv : (v : Int) = nth (dg n) j + 1000000000 * ((v / 1000000000 : Nat) : Int) := by rw [dg_nth h6]; omega
  rw [hv] at h7
  refine ⟨h1.set _ ⟨by omega, by omega⟩, by rw [List.length_set]; exact h2, hj, ⟨by omega, by omega⟩, fun i hi => ?_, v / 1000000000, dg_drop h6, ?_⟩
  · rw [nth_set_ne (by omega)]; exact h5 i hi
  · rw [wval_set _ _ _ (by omega), show k + (j + 1) = k + j + 1 by omega, wpow_succ]
    exact mulI_alg h7 rfl (by omega)
theorem mulJ_step {m n k : Nat} {O O' : List Int} {c : Int} (h : MulJ m n k O) (hk : k < (dg m).length) (h' : MulI m n k (wval O + (1000000000 : Int) ^ k * (nth (dg m) k * n)) (dg n).length c O') : MulJ m n (k + 1) (O'.set (k + (dg n).length) (nth O' (k + (dg n).length) + c)) := by
  obtain ⟨g1, g2, g3, g4, u, g5, g6⟩ := h
  obtain ⟨h1, h2, h3, h4, h5, v, h6, h7⟩ := h'
  have hz := h5 (k + (dg n).length) (Nat.le_refl _)
  have hv : v = 0 := by
    rw [List.drop_of_length_le (Nat.le_refl _)] at h6
    exact dg_nil.1 h6.symm
  rw [hv] at h7
  have hu : (u : Int) = nth (dg m) k + 1000000000 * ((u / 1000000000 : Nat) : Int) := by rw [dg_nth g5]; omega
  refine ⟨h1.set _ (by rw [hz]; omega), by rw [List.length_set]; exact h2, hk, fun i hi => ?_, u / 1000000000, dg_drop g5, ?_⟩
  · rw [nth_set_ne (by omega)]; exact h5 i (by omega)
  · rw [wval_set _ _ _ (by omega), hz, wpow_succ, ← g6, hu]
    have h7 : wval O' + (1000000000 : Int) ^ (k + (dg n).length) * (nth (dg m) k * 0 + c) = wval O + (1000000000 : Int) ^ k * (nth (dg m) k * n) := h7
    rw [Int.mul_zero, Int.zero_add] at h7
    rw [Int.zero_add, Int.sub_zero, h7]
    generalize (1000000000 : Int) ^ k = Z
    generalize nth (dg m) k = a
    generalize ((u / 1000000000 : Nat) : Int) = b
    grind
theorem mulJ_end {m n : Nat} {O : List Int} (h : MulJ m n (dg m).length O) : wval O = ((m * n : Nat) : Int) := by
  obtain ⟨g1, g2, g3, g4, u, g5, g6⟩ := h
  have hu : u = 0 := by
    rw [List.drop_of_length_le (Nat.le_refl _)] at g5
    exact dg_nil.1 g5.symm
  subst hu
  have g6 : wval O + (1000000000 : Int) ^ (dg m).length * (0 * n) = ((m * n : Nat) : Int) := g6
  rw [Int.zero_mul, Int.mul_zero, Int.add_zero] at g6
  exact g6
theorem zeros_wval (n : Nat) : wval (List.replicate n 0) = 0 := wval_zeros fun d hd => (List.mem_replicate.1 hd).2
theorem nth_zeros (n j : Nat) : nth (List.replicate n (0 : Int)) j = 0 := by
  unfold nth
  rw [List.getD_eq_getElem?_getD]
  by_cases h : j < n
  · rw [List.getElem?_replicate_of_lt h]; rfl
  · rw [List.getElem?_eq_none (by simp; omega)]; rfl
theorem zeros_ivs (n : Nat) : (zeros [.int .i64 0] (n * 1)).map DV.val = ivs (List.replicate n 0) := by
  refine ((List.eq_replicate_iff.2 ⟨by simp [zeros], fun b hb => ?_⟩ : _ = List.replicate n (I 0))).trans (by simp [ivs])
  obtain ⟨x, hx, rfl⟩ := List.mem_map.1 hb
  obtain ⟨i, _, rfl⟩ := List.mem_map.1 hx
  show DV.val ([Value.int .i64 0][i % 1]?.getD undef) = _
  rw [Nat.mod_one]; rfl
theorem mulJ_start (m n : Nat) : MulJ m n 0 (List.replicate ((dg m).length + (dg n).length + 1) 0) :=
  ⟨fun d hd => by rw [(List.mem_replicate.1 hd).2]; decide, List.length_replicate, Nat.zero_le _, fun j _ => nth_zeros _ j, m, rfl, by rw [zeros_wval, Int.pow_zero, Int.one_mul, Int.zero_add, Int.natCast_mul]⟩
theorem wideMul_A (x y : Int) (hx : wlen x ≤ 1000000) (hy : wlen y ≤ 1000000) : AC Try.prog 139 [wdV x, wdV y] (wdV (x * y)) := by
  have hx : (dg x.natAbs).length ≤ 1000000 := hx
  have hy : (dg y.natAbs).length ≤ 1000000 := hy
  have sx := sign_bnd x
  have sy := sign_bnd y
  have sxy : -1 ≤ x.sign * y.sign ∧ x.sign * y.sign ≤ 1 := by rw [← Int.sign_mul]; exact sign_bnd _
  have iN : AV.d (I (((dg x.natAbs).length : Int) + ((dg y.natAbs).length : Int) + 1)) = AV.d (I (((dg x.natAbs).length + (dg y.natAbs).length + 1 : Nat) : Int)) := congrArg (fun n => AV.d (I n)) (by omega)
  refine ac_body Try.func139 rfl (by kernel_rfl) fun w0 ok => ?_; show AWp _ (ctx0 w0 ok _) _ (ARet _ _ _) (entry _)
  (repeat' (first | (with_reducible first | intro hg | refine awp_seq ?_ | refine q_seq ?_ | refine q_blk ?_ | refine awp_block ?_ | refine awp_skip ?_ | refine awp_ret ?_ | refine awp_exit ?_ | refine q_seqE ?_ | refine q_seqR ?_ | refine q_blkR ?_ | refine q_blkE ?_) | ((with_reducible refine awp_region ?_ ?_); (focus exact kr)) | ((with_reducible refine awp_region_any mixed ?_ ?_); (focus exact kr)) | ((with_reducible apply awp_condT); (focus exact rfl); (focus exact tt)) | ((with_reducible apply awp_condF); (focus exact rfl); (focus exact ff)) | ((with_reducible apply awp_condD); (focus exact rfl)) | ((with_reducible apply awp_condN); (focus exact rfl)) | ((with_reducible apply awp_cond); (focus exact rfl)) | ((with_reducible refine q_blkX ?_ ?_); (focus exact rfl)) | ((with_reducible refine r_nil (And.intro ?_ ?_)); (focus exact kr)) | (with_reducible refine r_nil ?_) | ((with_reducible apply r_put); (focus exact dp)) | ((with_reducible apply r_new); (focus (first | exact dn | exact o_makeSl (by exact iN) (by omega) (by omega) rfl))) | ((with_reducible apply r_app); (focus exact da)) | ((with_reducible apply r_set); (focus exact ds)) | ((with_reducible apply r_putY); (focus exact rfl); (focus exact rfl); (focus exact tf); (focus exact dp)) | ((with_reducible apply r_newY); (focus exact rfl); (focus exact rfl); (focus exact tf); (focus (first | exact dn | exact o_makeSl (by exact iN) (by omega) (by omega) rfl))) | ((with_reducible apply r_noT); (focus exact rfl); (focus exact rfl); (focus exact ff)) | ((with_reducible apply r_noF); (focus exact rfl); (focus exact rfl); (focus exact tt)) | ((with_reducible apply r_noU); (focus exact rfl); (focus exact rfl)) | ((with_reducible apply r_splitD); (focus exact rfl); (focus exact rfl)) | ((with_reducible apply r_split); (focus exact rfl); (focus exact rfl))))
  refine awp_loopL2 (fun (k : Nat) (_ : List Int) => [(2, .ptr 2 0), (3, .ptr 3 0), (4, .ptr 4 0), (5, .lsl 18 0 ((dg x.natAbs).length + (dg y.natAbs).length + 1) 1), (6, .d (I k))]) (fun _ O => [(2, ⟨133, wdC x⟩), (3, ⟨133, wdC y⟩), (4, ⟨133, [I 0, nilV]⟩), (18, ⟨3, ivs O⟩)]) (fun k O => MulJ x.natAbs y.natAbs k O) (fun k _ => (dg x.natAbs).length - k) 0 (List.replicate ((dg x.natAbs).length + (dg y.natAbs).length + 1) 0) (mulJ_start _ _) (And.intro rfl (And.intro rfl (And.intro rfl (And.intro rfl (And.intro rfl trivial))))) (And.intro rfl (And.intro rfl (And.intro rfl (And.intro (congrArg (fun l => some (Blk.mk _ l)) (zeros_ivs _)) trivial)))) fun k O hJ => ?_
  have hOl := hJ.2.1
  by_cases hk : k < (dg x.natAbs).length
  rotate_left
  · obtain rfl : k = (dg x.natAbs).length := by have := hJ.2.2.1; omega
    have e := mulJ_end hJ
    have ha : (x * y).natAbs = (wval O).toNat := by rw [e, Int.natAbs_mul]; omega
    have hw := wideOf_A (x.sign * y.sign) O (x * y) hJ.1 (by omega) ha (fun _ => (Int.sign_mul _ _).symm)
    clear hJ e ha
    refine awp_ownL 5 18 (t := 3) O (by rw [← hOl]; rcases O with _ | ⟨o, O⟩ <;> first | (simp at hOl; done) | rfl) (fun x k hk => rfl) ?_
    (repeat' (first | (with_reducible first | intro hg | refine awp_seq ?_ | refine q_seq ?_ | refine q_blk ?_ | refine awp_block ?_ | refine awp_skip ?_ | refine awp_ret ?_ | refine awp_exit ?_ | refine q_seqE ?_ | refine q_seqR ?_ | refine q_blkR ?_ | refine q_blkE ?_) | ((with_reducible refine awp_region ?_ ?_); (focus exact kr)) | ((with_reducible refine awp_region_any mixed ?_ ?_); (focus exact kr)) | ((with_reducible apply awp_condT); (focus exact rfl); (focus exact tt)) | ((with_reducible apply awp_condF); (focus exact rfl); (focus exact ff)) | ((with_reducible apply awp_condD); (focus exact rfl)) | ((with_reducible apply awp_condN); (focus exact rfl)) | ((with_reducible apply awp_cond); (focus exact rfl)) | ((with_reducible refine q_blkX ?_ ?_); (focus exact rfl)) | ((with_reducible refine r_nil (And.intro ?_ ?_)); (focus exact kr)) | (with_reducible refine r_nil ?_) | ((with_reducible apply r_put); (focus (first | exact dp | exact oc rfl (hw)))) | ((with_reducible apply r_new); (focus exact dn)) | ((with_reducible apply r_app); (focus exact da)) | ((with_reducible apply r_set); (focus exact ds)) | ((with_reducible apply r_putY); (focus exact rfl); (focus exact rfl); (focus exact tf); (focus (first | exact dp | exact oc rfl (hw)))) | ((with_reducible apply r_newY); (focus exact rfl); (focus exact rfl); (focus exact tf); (focus exact dn)) | ((with_reducible apply r_noT); (focus exact rfl); (focus exact rfl); (focus exact ff)) | ((with_reducible apply r_noF); (focus exact rfl); (focus exact rfl); (focus exact tt)) | ((with_reducible apply r_noU); (focus exact rfl); (focus exact rfl)) | ((with_reducible apply r_splitD); (focus exact rfl); (focus exact rfl)) | ((with_reducible apply r_split); (focus exact rfl); (focus exact rfl))))
    ((with_reducible first | apply q_retR | apply q_retN); (focus exact rl))
    rfl
  · (repeat' (first | (with_reducible first | intro hg | refine awp_seq ?_ | refine q_seq ?_ | refine q_blk ?_ | refine awp_block ?_ | refine awp_skip ?_ | refine awp_ret ?_ | refine awp_exit ?_ | refine q_seqE ?_ | refine q_seqR ?_ | refine q_blkR ?_ | refine q_blkE ?_) | ((with_reducible refine awp_region ?_ ?_); (focus exact kr)) | ((with_reducible refine awp_region_any mixed ?_ ?_); (focus exact kr)) | ((with_reducible apply awp_condT); (focus exact rfl); (focus exact tt)) | ((with_reducible apply awp_condF); (focus exact rfl); (focus exact ff)) | ((with_reducible apply awp_condD); (focus exact rfl)) | ((with_reducible apply awp_condN); (focus exact rfl)) | ((with_reducible apply awp_cond); (focus exact rfl)) | ((with_reducible refine q_blkX ?_ ?_); (focus exact rfl)) | ((with_reducible refine r_nil (And.intro ?_ ?_)); (focus exact kr)) | (with_reducible refine r_nil ?_) | ((with_reducible apply r_put); (focus exact dp)) | ((with_reducible apply r_new); (focus exact dn)) | ((with_reducible apply r_app); (focus exact da)) | ((with_reducible apply r_set); (focus exact ds)) | ((with_reducible apply r_putY); (focus exact rfl); (focus exact rfl); (focus exact tf); (focus exact dp)) | ((with_reducible apply r_newY); (focus exact rfl); (focus exact rfl); (focus exact tf); (focus exact dn)) | ((with_reducible apply r_noT); (focus exact rfl); (focus exact rfl); (focus exact ff)) | ((with_reducible apply r_noF); (focus exact rfl); (focus exact rfl); (focus exact tt)) | ((with_reducible apply r_noU); (focus exact rfl); (focus exact rfl)) | ((with_reducible apply r_splitD); (focus exact rfl); (focus exact rfl)) | ((with_reducible apply r_split); (focus exact rfl); (focus exact rfl))))
    refine awp_loopL3 (fun (j : Nat) (c : Int) (_ : List Int) => [(2, .ptr 2 0), (3, .ptr 3 0), (4, .ptr 4 0), (5, .lsl 18 0 ((dg x.natAbs).length + (dg y.natAbs).length + 1) 1), (6, .d (I k)), (7, .d (I c)), (8, .d (I j))]) (fun _ _ O => [(2, ⟨133, wdC x⟩), (3, ⟨133, wdC y⟩), (4, ⟨133, [I 0, nilV]⟩), (18, ⟨3, ivs O⟩)]) (fun j c P => MulI x.natAbs y.natAbs k (wval O + (1000000000 : Int) ^ k * (nth (dg x.natAbs) k * y.natAbs)) j c P) (fun j _ _ => (dg y.natAbs).length - j) 0 0 O (mulI_start hJ) (And.intro rfl (And.intro rfl (And.intro rfl (And.intro rfl (And.intro rfl (And.intro rfl (And.intro rfl trivial))))))) (And.intro rfl (And.intro rfl (And.intro rfl (And.intro rfl trivial)))) fun j c P hI => ?_
    have hPl := hI.2.1
    have hjl := hI.2.2.1
    have hcb := hI.2.2.2.1
    by_cases hj : j < (dg y.natAbs).length
    · have hI' := mulI_step hI hj hk
      have b1 := hI.1.nth (k + j)
      have b2 := mulB ((dg_WDg x.natAbs).nth k) ((dg_WDg y.natAbs).nth j)
      clear hI hJ
      (repeat' (first | (with_reducible first | intro hg | refine awp_seq ?_ | refine q_seq ?_ | refine q_blk ?_ | refine awp_block ?_ | refine awp_skip ?_ | refine awp_ret ?_ | refine awp_exit ?_ | refine q_seqE ?_ | refine q_seqR ?_ | refine q_blkR ?_ | refine q_blkE ?_) | ((with_reducible refine awp_region ?_ ?_); (focus exact kr)) | ((with_reducible refine awp_region_any mixed ?_ ?_); (focus exact kr)) | ((with_reducible apply awp_condT); (focus exact rfl); (focus exact tt)) | ((with_reducible apply awp_condF); (focus exact rfl); (focus exact ff)) | ((with_reducible apply awp_condD); (focus exact rfl)) | ((with_reducible apply awp_condN); (focus exact rfl)) | ((with_reducible apply awp_cond); (focus exact rfl)) | ((with_reducible refine q_blkX ?_ ?_); (focus exact rfl)) | ((with_reducible refine r_nil (And.intro ?_ ?_)); (focus exact kr)) | (with_reducible refine r_nil ?_) | ((with_reducible apply r_put); (focus (first | exact o_indexL (o := k + j) rfl rfl (by omega) (by omega) (by omega) | exact o_indexI (j := k) (xs := dg x.natAbs) rfl rfl (by omega) rfl | exact o_indexI (j := j) (xs := dg y.natAbs) rfl rfl (by omega) rfl | exact dp))) | ((with_reducible apply r_new); (focus exact dn)) | ((with_reducible apply r_app); (focus exact da)) | ((with_reducible apply r_set); (focus (first | exact o_storeLI rfl rfl rfl (by omega) | exact ds))) | ((with_reducible apply r_putY); (focus exact rfl); (focus exact rfl); (focus exact tf); (focus (first | exact o_indexL (o := k + j) rfl rfl (by omega) (by omega) (by omega) | exact o_indexI (j := k) (xs := dg x.natAbs) rfl rfl (by omega) rfl | exact o_indexI (j := j) (xs := dg y.natAbs) rfl rfl (by omega) rfl | exact dp))) | ((with_reducible apply r_newY); (focus exact rfl); (focus exact rfl); (focus exact tf); (focus exact dn)) | ((with_reducible apply r_noT); (focus exact rfl); (focus exact rfl); (focus exact ff)) | ((with_reducible apply r_noF); (focus exact rfl); (focus exact rfl); (focus exact tt)) | ((with_reducible apply r_noU); (focus exact rfl); (focus exact rfl)) | ((with_reducible apply r_splitD); (focus exact rfl); (focus exact rfl)) | ((with_reducible apply r_split); (focus exact rfl); (focus exact rfl))))
      exact ⟨j + 1, _, _, hI', by omega, (And.intro rfl (And.intro rfl (And.intro rfl (And.intro rfl (And.intro rfl (And.intro rfl (And.intro rfl trivial))))))), (And.intro rfl (And.intro rfl (And.intro rfl (And.intro rfl trivial))))⟩
    · obtain rfl : j = (dg y.natAbs).length := by omega
      have hJ' := mulJ_step hJ hk hI
      have hz := hI.2.2.2.2.1 (k + (dg y.natAbs).length) (Nat.le_refl _)
      clear hI hJ
      (repeat' (first | (with_reducible first | intro hg | refine awp_seq ?_ | refine q_seq ?_ | refine q_blk ?_ | refine awp_block ?_ | refine awp_skip ?_ | refine awp_ret ?_ | refine awp_exit ?_ | refine q_seqE ?_ | refine q_seqR ?_ | refine q_blkR ?_ | refine q_blkE ?_) | ((with_reducible refine awp_region ?_ ?_); (focus exact kr)) | ((with_reducible refine awp_region_any mixed ?_ ?_); (focus exact kr)) | ((with_reducible apply awp_condT); (focus exact rfl); (focus exact tt)) | ((with_reducible apply awp_condF); (focus exact rfl); (focus exact ff)) | ((with_reducible apply awp_condD); (focus exact rfl)) | ((with_reducible apply awp_condN); (focus exact rfl)) | ((with_reducible apply awp_cond); (focus exact rfl)) | ((with_reducible refine q_blkX ?_ ?_); (focus exact rfl)) | ((with_reducible refine r_nil (And.intro ?_ ?_)); (focus exact kr)) | (with_reducible refine r_nil ?_) | ((with_reducible apply r_put); (focus (first | exact o_indexL (o := k + (dg y.natAbs).length) rfl rfl (by omega) (by omega) (by omega) | exact dp))) | ((with_reducible apply r_new); (focus exact dn)) | ((with_reducible apply r_app); (focus exact da)) | ((with_reducible apply r_set); (focus (first | exact o_storeLI rfl rfl rfl (by omega) | exact ds))) | ((with_reducible apply r_putY); (focus exact rfl); (focus exact rfl); (focus exact tf); (focus (first | exact o_indexL (o := k + (dg y.natAbs).length) rfl rfl (by omega) (by omega) (by omega) | exact dp))) | ((with_reducible apply r_newY); (focus exact rfl); (focus exact rfl); (focus exact tf); (focus exact dn)) | ((with_reducible apply r_noT); (focus exact rfl); (focus exact rfl); (focus exact ff)) | ((with_reducible apply r_noF); (focus exact rfl); (focus exact rfl); (focus exact tt)) | ((with_reducible apply r_noU); (focus exact rfl); (focus exact rfl)) | ((with_reducible apply r_splitD); (focus exact rfl); (focus exact rfl)) | ((with_reducible apply r_split); (focus exact rfl); (focus exact rfl))))
      exact ⟨k + 1, _, hJ', by omega, (And.intro rfl (And.intro rfl (And.intro rfl (And.intro rfl (And.intro rfl trivial))))), (And.intro rfl (And.intro rfl (And.intro rfl (And.intro rfl trivial))))⟩

end Go.Proofs.Ytemihhkbieplmaa
