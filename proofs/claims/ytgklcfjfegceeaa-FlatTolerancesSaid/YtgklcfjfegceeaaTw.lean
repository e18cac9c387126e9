/- Tolerances: the reference of contradictions: walks. -/
import Derived.Test.YtgklcfjfegceeaaTv
set_option linter.unusedVariables false
set_option linter.unusedSimpArgs false
namespace Go.Proofs.Ytgklcfjfegceeaa
open Go.RowKit
set_option maxRecDepth 20000
set_option maxHeartbeats 8000000

theorem before_A (xs ys : List Int) (hl : xs.length = ys.length) (hm : xs.length ≤ 1000) : AC Try.prog 116 [isl xs, isl ys] (B (decide (cmpL xs ys < 0))) := by
  refine ac_body Try.func116 rfl (by kernel_rfl) fun w0 ok => ?_; show AWp _ (ctx0 w0 ok _) _ (ARet _ _ _) (entry _)
  (repeat' (first | (with_reducible first | intro hg | refine awp_seq ?_ | refine q_seq ?_ | refine q_blk ?_ | refine awp_block ?_ | refine awp_skip ?_ | refine awp_ret ?_ | refine awp_exit ?_ | refine q_seqE ?_ | refine q_seqR ?_ | refine q_blkR ?_ | refine q_blkE ?_) | ((with_reducible refine awp_region ?_ ?_); (focus exact kr)) | ((with_reducible refine awp_region_any mixed ?_ ?_); (focus exact kr)) | ((with_reducible apply awp_condT); (focus exact rfl); (focus exact tt)) | ((with_reducible apply awp_condF); (focus exact rfl); (focus exact ff)) | ((with_reducible apply awp_condD); (focus exact rfl)) | ((with_reducible apply awp_condN); (focus exact rfl)) | ((with_reducible apply awp_cond); (focus exact rfl)) | ((with_reducible refine q_blkX ?_ ?_); (focus exact rfl)) | ((with_reducible refine r_nil (And.intro ?_ ?_)); (focus exact kr)) | (with_reducible refine r_nil ?_) | ((with_reducible apply r_put); (focus exact dp)) | ((with_reducible apply r_new); (focus exact dn)) | ((with_reducible apply r_app); (focus exact da)) | ((with_reducible apply r_set); (focus exact ds)) | ((with_reducible apply r_putY); (focus exact rfl); (focus exact rfl); (focus exact tf); (focus exact dp)) | ((with_reducible apply r_newY); (focus exact rfl); (focus exact rfl); (focus exact tf); (focus exact dn)) | ((with_reducible apply r_noT); (focus exact rfl); (focus exact rfl); (focus exact ff)) | ((with_reducible apply r_noF); (focus exact rfl); (focus exact rfl); (focus exact tt)) | ((with_reducible apply r_noU); (focus exact rfl); (focus exact rfl)) | ((with_reducible apply r_splitD); (focus exact rfl); (focus exact rfl)) | ((with_reducible apply r_split); (focus exact rfl); (focus exact rfl))))
  refine awp_loopL (α := Nat) (fun k => [(0, .d (isl xs)), (1, .d (isl ys)), (5, .d (I k))]) (fun _ => []) (fun k => k ≤ xs.length ∧ cmpL (xs.drop k) (ys.drop k) = cmpL xs ys) (fun k => xs.length - k) 0 ⟨Nat.zero_le _, rfl⟩ (And.intro rfl (And.intro rfl (And.intro rfl trivial))) trivial fun k ⟨hk, hd⟩ => ?_
  by_cases hlt : k < xs.length
  · have hlt2 : k < ys.length := by omega
    rw [drop_getD hlt, drop_getD hlt2] at hd
    have hd : (bif cmpI (nth xs k) (nth ys k) == 0 then cmpL (xs.drop (k + 1)) (ys.drop (k + 1)) else cmpI (nth xs k) (nth ys k)) = cmpL xs ys := hd
    by_cases hz : nth xs k = nth ys k
    · have hc : cmpI (nth xs k) (nth ys k) = 0 := by unfold cmpI; rw [decide_eq_false (by omega), decide_eq_false (by omega)]; rfl
      rw [hc] at hd
      (repeat' (first | (with_reducible first | intro hg | refine awp_seq ?_ | refine q_seq ?_ | refine q_blk ?_ | refine awp_block ?_ | refine awp_skip ?_ | refine awp_ret ?_ | refine awp_exit ?_ | refine q_seqE ?_ | refine q_seqR ?_ | refine q_blkR ?_ | refine q_blkE ?_) | ((with_reducible refine awp_region ?_ ?_); (focus exact kr)) | ((with_reducible refine awp_region_any mixed ?_ ?_); (focus exact kr)) | ((with_reducible apply awp_condT); (focus exact rfl); (focus exact tt)) | ((with_reducible apply awp_condF); (focus exact rfl); (focus exact ff)) | ((with_reducible apply awp_condD); (focus exact rfl)) | ((with_reducible apply awp_condN); (focus exact rfl)) | ((with_reducible apply awp_cond); (focus exact rfl)) | ((with_reducible refine q_blkX ?_ ?_); (focus exact rfl)) | ((with_reducible refine r_nil (And.intro ?_ ?_)); (focus exact kr)) | (with_reducible refine r_nil ?_) | ((with_reducible apply r_put); (focus (first | exact o_indexI (j := k) (xs := xs) rfl rfl (by omega) rfl | exact o_indexI (j := k) (xs := ys) rfl rfl (by omega) rfl | exact dp))) | ((with_reducible apply r_new); (focus exact dn)) | ((with_reducible apply r_app); (focus exact da)) | ((with_reducible apply r_set); (focus exact ds)) | ((with_reducible apply r_putY); (focus exact rfl); (focus exact rfl); (focus exact tf); (focus (first | exact o_indexI (j := k) (xs := xs) rfl rfl (by omega) rfl | exact o_indexI (j := k) (xs := ys) rfl rfl (by omega) rfl | exact dp))) | ((with_reducible apply r_newY); (focus exact rfl); (focus exact rfl); (focus exact tf); (focus exact dn)) | ((with_reducible apply r_noT); (focus exact rfl); (focus exact rfl); (focus exact ff)) | ((with_reducible apply r_noF); (focus exact rfl); (focus exact rfl); (focus exact tt)) | ((with_reducible apply r_noU); (focus exact rfl); (focus exact rfl)) | ((with_reducible apply r_splitD); (focus exact rfl); (focus exact rfl)) | ((with_reducible apply r_split); (focus exact rfl); (focus exact rfl))))
      exact ⟨k + 1, ⟨hlt, hd⟩, by omega, (And.intro rfl (And.intro rfl (And.intro rfl trivial))), trivial⟩
    · have hc : decide (nth xs k < nth ys k) = decide (cmpL xs ys < 0) := by
        rw [← hd]
        unfold cmpI
        by_cases h1 : nth xs k < nth ys k
        · rw [decide_eq_true h1]; rfl
        · rw [decide_eq_false h1, decide_eq_true (show nth ys k < nth xs k by omega)]; rfl
      rw [← hc]
      (repeat' (first | (with_reducible first | intro hg | refine awp_seq ?_ | refine q_seq ?_ | refine q_blk ?_ | refine awp_block ?_ | refine awp_skip ?_ | refine awp_ret ?_ | refine awp_exit ?_ | refine q_seqE ?_ | refine q_seqR ?_ | refine q_blkR ?_ | refine q_blkE ?_) | ((with_reducible refine awp_region ?_ ?_); (focus exact kr)) | ((with_reducible refine awp_region_any mixed ?_ ?_); (focus exact kr)) | ((with_reducible apply awp_condT); (focus exact rfl); (focus exact tt)) | ((with_reducible apply awp_condF); (focus exact rfl); (focus exact ff)) | ((with_reducible apply awp_condD); (focus exact rfl)) | ((with_reducible apply awp_condN); (focus exact rfl)) | ((with_reducible apply awp_cond); (focus exact rfl)) | ((with_reducible refine q_blkX ?_ ?_); (focus exact rfl)) | ((with_reducible refine r_nil (And.intro ?_ ?_)); (focus exact kr)) | (with_reducible refine r_nil ?_) | ((with_reducible apply r_put); (focus (first | exact o_indexI (j := k) (xs := xs) rfl rfl (by omega) rfl | exact o_indexI (j := k) (xs := ys) rfl rfl (by omega) rfl | exact dp))) | ((with_reducible apply r_new); (focus exact dn)) | ((with_reducible apply r_app); (focus exact da)) | ((with_reducible apply r_set); (focus exact ds)) | ((with_reducible apply r_putY); (focus exact rfl); (focus exact rfl); (focus exact tf); (focus (first | exact o_indexI (j := k) (xs := xs) rfl rfl (by omega) rfl | exact o_indexI (j := k) (xs := ys) rfl rfl (by omega) rfl | exact dp))) | ((with_reducible apply r_newY); (focus exact rfl); (focus exact rfl); (focus exact tf); (focus exact dn)) | ((with_reducible apply r_noT); (focus exact rfl); (focus exact rfl); (focus exact ff)) | ((with_reducible apply r_noF); (focus exact rfl); (focus exact rfl); (focus exact tt)) | ((with_reducible apply r_noU); (focus exact rfl); (focus exact rfl)) | ((with_reducible apply r_splitD); (focus exact rfl); (focus exact rfl)) | ((with_reducible apply r_split); (focus exact rfl); (focus exact rfl))))
      ((with_reducible first | apply q_retR | apply q_retN); (focus exact rl))
      rfl
  · have hc : decide ((xs.length : Int) < (ys.length : Int)) = decide (cmpL xs ys < 0) := by
      rw [← hd, List.drop_of_length_le (by omega), decide_eq_false (by omega)]; rfl
    rw [← hc]
    (repeat' (first | (with_reducible first | intro hg | refine awp_seq ?_ | refine q_seq ?_ | refine q_blk ?_ | refine awp_block ?_ | refine awp_skip ?_ | refine awp_ret ?_ | refine awp_exit ?_ | refine q_seqE ?_ | refine q_seqR ?_ | refine q_blkR ?_ | refine q_blkE ?_) | ((with_reducible refine awp_region ?_ ?_); (focus exact kr)) | ((with_reducible refine awp_region_any mixed ?_ ?_); (focus exact kr)) | ((with_reducible apply awp_condT); (focus exact rfl); (focus exact tt)) | ((with_reducible apply awp_condF); (focus exact rfl); (focus exact ff)) | ((with_reducible apply awp_condD); (focus exact rfl)) | ((with_reducible apply awp_condN); (focus exact rfl)) | ((with_reducible apply awp_cond); (focus exact rfl)) | ((with_reducible refine q_blkX ?_ ?_); (focus exact rfl)) | ((with_reducible refine r_nil (And.intro ?_ ?_)); (focus exact kr)) | (with_reducible refine r_nil ?_) | ((with_reducible apply r_put); (focus exact dp)) | ((with_reducible apply r_new); (focus exact dn)) | ((with_reducible apply r_app); (focus exact da)) | ((with_reducible apply r_set); (focus exact ds)) | ((with_reducible apply r_putY); (focus exact rfl); (focus exact rfl); (focus exact tf); (focus exact dp)) | ((with_reducible apply r_newY); (focus exact rfl); (focus exact rfl); (focus exact tf); (focus exact dn)) | ((with_reducible apply r_noT); (focus exact rfl); (focus exact rfl); (focus exact ff)) | ((with_reducible apply r_noF); (focus exact rfl); (focus exact rfl); (focus exact tt)) | ((with_reducible apply r_noU); (focus exact rfl); (focus exact rfl)) | ((with_reducible apply r_splitD); (focus exact rfl); (focus exact rfl)) | ((with_reducible apply r_split); (focus exact rfl); (focus exact rfl))))
    ((with_reducible first | apply q_retR | apply q_retN); (focus exact rl))
    rfl
theorem zeros_bls (n : Nat) : (zeros [.bool false] (n * 1)).map DV.val = bls (fun _ => false) n := by
  rw [← bls0]
  refine ((List.eq_replicate_iff.2 ⟨by simp [zeros], fun b hb => ?_⟩ : _ = List.replicate n (B false))).trans (by simp)
  obtain ⟨x, hx, rfl⟩ := List.mem_map.1 hb
  obtain ⟨i, _, rfl⟩ := List.mem_map.1 hx
  show DV.val ([Value.bool false][i % 1]?.getD undef) = _
  rw [Nat.mod_one]; rfl
/-- Whether one of the first sets of a table holds a set. -/
def anyTo (f : Nat → Bool) (s : Nat) : Nat → Bool
  | 0 => false
  | k + 1 => anyTo f s k || (f k && decide (((k &&& s : Nat) : Int) = (s : Int)))
theorem anyTo_iff (f : Nat → Bool) (s : Nat) : ∀ k, anyTo f s k = true ↔ ∃ x, x < k ∧ f x = true ∧ Subs s x
  | 0 => by simp [anyTo]
  | k + 1 => by
    show (anyTo f s k || (f k && decide (((k &&& s : Nat) : Int) = (s : Int)))) = true ↔ _
    rw [Bool.or_eq_true, Bool.and_eq_true, decide_eq_true_eq, anyTo_iff f s k]
    constructor
    · rintro (⟨x, h1, h2⟩ | ⟨h1, h2⟩)
      · exact ⟨x, by omega, h2⟩
      · exact ⟨k, by omega, h1, subs_and.1 (by omega)⟩
    · rintro ⟨x, h1, h2, h3⟩
      by_cases e : x = k
      · subst e; exact .inr ⟨h2, congrArg Int.ofNat (subs_and.2 h3)⟩
      · exact .inl ⟨x, by omega, h2, h3⟩
theorem keptTo_add {T : List Int} {A : List Act3} {xs : List Int} {m : Int} (k : Nat) : keptTo T A xs m k ||| 2 ^ k = keptTo T A xs m k + 2 ^ k := by
  have h := Nat.two_pow_add_eq_or_of_lt (keptTo_lt (T := T) (A := A) (xs := xs) (m := m) k) 1
  rw [Nat.mul_one] at h
  rw [Nat.or_comm, ← h, Nat.add_comm]
theorem pos_bit (s k : Nat) : (((s / 2 ^ k) &&& 1 : Nat) : Int) = 1 ↔ s &&& 2 ^ k ≠ 0 := by
  rw [Nat.and_one_is_mod, ← Nat.toNat_testBit]
  cases h : s.testBit k
  · have e : s &&& 2 ^ k = 0 := Nat.eq_of_testBit_eq fun j => by
      rw [Nat.testBit_and, Nat.testBit_two_pow, Nat.zero_testBit]
      by_cases hj : k = j
      · subst hj; rw [h]; rfl
      · rw [decide_eq_false hj, Bool.and_false]
    rw [e]; simp
  · have e : s &&& 2 ^ k ≠ 0 := fun e => by
      have h2 := Nat.testBit_and s (2 ^ k) k
      rw [e, h, Nat.testBit_two_pow, Nat.zero_testBit] at h2
      simp at h2
    simp [e]
theorem posTo_more {s n : Nat} (h : s < 2 ^ n) : ∀ d, posTo s (n + d) = posTo s n
  | 0 => rfl
  | d + 1 => by
    have h1 : s / 2 ^ (n + d) = 0 := Nat.div_eq_of_lt (Nat.lt_of_lt_of_le h (Nat.pow_le_pow_right (by decide) (by omega)))
    show (bif decide ((((s / 2 ^ (n + d)) &&& 1 : Nat) : Int) = 1) then posTo s (n + d) ++ [((n + d : Nat) : Int)] else posTo s (n + d)) = _
    rw [h1]
    exact posTo_more h d
/-- The sets that the reference finds. -/
def refP (T : List Int) (A : List Act3) (m : Int) (L : List (List Int)) : Option (List Int) := pickTo (fun s => anyTo (tog T A m L L.length) s (2 ^ T.length)) (2 ^ T.length - 1)
theorem pickTo_congr {f g : Nat → Bool} : ∀ k, (∀ s, 0 < s → s ≤ k → f s = g s) → pickTo f k = pickTo g k
  | 0, _ => rfl
  | k + 1, h => by
    show pickS f (pickTo f k) (k + 1) = pickS g (pickTo g k) (k + 1)
    rw [pickTo_congr k fun s h1 h2 => h s h1 (by omega)]
    unfold pickS
    rw [h (k + 1) (by omega) (Nat.le_refl _)]
theorem tog_lt {T : List Int} {A : List Act3} {m : Int} {L : List (List Int)} : ∀ k, k ≤ L.length → ∀ x, tog T A m L k x = true → x < 2 ^ T.length
  | 0, _, x, h => by
    have h : false = true := h
    exact absurd h (by decide)
  | k + 1, hk, x, h => by
    rw [tog_succ (N := L.getD k []) (by omega) rfl] at h
    by_cases e : x = keptTo T A (L.getD k []) m T.length
    · rw [e]; exact keptTo_lt _
    · rw [updB_ne e] at h
      exact tog_lt k (by omega) x h
theorem refP_eq {T : List Int} {A : List Act3} {m : Int} {L : List (List Int)} (ht : T.length ≤ 9) : refP T A m L = contP T A m L := by
  refine pickTo_congr _ fun s h0 hs => ?_
  have hp : 0 < 2 ^ T.length := Nat.pow_pos (by decide)
  rw [Bool.eq_iff_iff, anyTo_iff]
  show _ ↔ outerF (tog T A m L L.length) T.length (2 ^ T.length - 1) (2 ^ T.length - 1) s = true
  rw [closed_iff (by omega) (tog_lt L.length (Nat.le_refl _)) h0 (by omega)]
  constructor
  · rintro ⟨x, _, h1, h2⟩; exact ⟨x, h1, h2⟩
  · rintro ⟨x, h1, h2⟩; exact ⟨x, tog_lt L.length (Nat.le_refl _) x h1, h1, h2⟩

end Go.Proofs.Ytgklcfjfegceeaa
