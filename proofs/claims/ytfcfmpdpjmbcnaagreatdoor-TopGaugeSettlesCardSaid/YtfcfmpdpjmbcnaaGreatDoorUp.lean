/- After how many ticks a monitor rests. -/
import Derived.Test.YtfcfmpdpjmbcnaaGreatDoorUr
set_option linter.unusedVariables false
set_option linter.unusedSimpArgs false
namespace Go.Proofs.YtfcfmpdpjmbcnaaGreatDoor
open Go.RowKit
set_option maxRecDepth 20000
set_option maxHeartbeats 8000000

theorem cr_bnd5 {m : Mon} (h : MonOk m) {y : Int} (hy : -100000 ≤ y ∧ y ≤ 100000) : (m.cr y).natAbs ≤ 10000000 := by
  have h1 := mul_rng (x := m.num) (e := y) 100 100000 (by have := h.n; omega) (by omega)
  have h2 := Int.natAbs_tdiv_le_natAbs (m.num * y) m.den
  unfold Mon.cr
  cases decide ((y.natAbs : Int) > m.band)
  · exact Nat.zero_le _
  · show ((m.num * y).tdiv m.den).natAbs ≤ _
    omega
theorem out_bnd {m : Mon} (h : MonOk m) {D : Int} {T : Nat} (hT : ∀ j, j ≤ T → -100000 ≤ m.o D j ∧ m.o D j ≤ 100000) : ∀ s : Nat, s ≤ m.d + 1 → (m.o D (T + s)).natAbs ≤ 100000 + s * 10000000
  | 0, _ => by have := hT T (Nat.le_refl _); show (m.o D T).natAbs ≤ _; omega
  | s + 1, hs => by
    have ih := out_bnd h hT s (by omega)
    have e : m.o D (T + s + 1) = m.o D (T + s) + (m.cor (fun _ => D) (T + s + 1) - m.cor (fun _ => D) (T + s)) := by
      show D + m.cor _ _ = D + m.cor _ _ + _
      omega
    show (m.o D (T + s + 1)).natAbs ≤ _
    rw [e]
    by_cases hd : T + s < m.d
    · rw [m.cor_lt _ hd]
      omega
    · rw [m.cor_ge _ (show m.d ≤ T + s by omega)]
      have := cr_bnd5 h (hT (T + s - m.d) (by omega))
      have e2 : m.out (fun _ => D) (T + s - m.d) = m.o D (T + s - m.d) := rfl
      rw [e2]
      omega
theorem out_bnd9 {m : Mon} (h : MonOk m) {D : Int} {T : Nat} (hT : ∀ j, j ≤ T → -100000 ≤ m.o D j ∧ m.o D j ≤ 100000) : ∀ t, t < T + m.d + 2 → -1000000000 ≤ m.out (fun _ => D) t ∧ m.out (fun _ => D) t ≤ 1000000000 := fun t ht => by
  have e : m.out (fun _ => D) t = m.o D t := rfl
  rw [e]
  have hd := h.d
  by_cases hj : t ≤ T
  · have := hT t hj
    omega
  · have := out_bnd h hT (t - T) (by omega)
    rw [show T + (t - T) = t by omega] at this
    have : (t - T) * 10000000 ≤ 11 * 10000000 := Nat.mul_le_mul_right _ (by omega)
    omega
theorem rests1_A (D : Int) (t : Int) : AC Tryz.prog 84 ([I t] ++ [.ref [I D]]) (I D) := by
  refine ac_body Tryz.func84 rfl (by kernel_rfl) fun w0 ok => ?_; show AWp _ (ctx0 w0 ok _) _ (ARet _ _ _) (entry _)
  exact zF
abbrev rsS (m : Mon) (x y : Int) (s : Nat) (l : Int) : AS := ⟨frL [(2, .ptr 2 0), (4, .ptr 4 0), (5, .ptr 5 0), (7, .ptr 7 0), (8, .ptr 8 0), (9, .ptr 9 0)], memL [(2, ⟨73, monC m⟩), (4, ⟨3, [I 0]⟩), (5, ⟨29, [I x]⟩), (7, ⟨3, [I y]⟩), (8, ⟨3, [I s]⟩), (9, ⟨3, [I l]⟩)]⟩
theorem outY_at {m : Mon} {f : Nat → Int} {N k : Nat} {d : YA} (h : (outY m f N)[k]? = some d) : k < N ∧ d = .gv [I k, I (m.out f k)] := by
  by_cases hk : k < N
  · rw [outY_get hk] at h
    injection h with h
    exact ⟨hk, h.symm⟩
  · rw [List.getElem?_eq_none (by simp [outY]; omega)] at h
    cases h
theorem rests_end {m : Mon} {D rest : Int} {s : Nat} (hb : bigO (m.o D) 501 = false) (h : RestI (m.o D) m.d (502 + m.d) rest s) : m.restR D = bif inR rest 0 500 then (rest, 0) else (0, 21) := by
  unfold Mon.restR
  rw [hb, cond_false]
  rcases h.rs with ⟨h1, _, h3⟩ | ⟨r, h1, h2, h3, h4⟩
  · have : m.rest D = none := fstO_none.2 fun a ha => by
      rw [Bool.eq_false_iff]
      exact fun hc => h3 a (by omega) (cstB_iff.1 hc)
    rw [this, h1]; rfl
  · rw [Mon.rest_of (by omega) h3 h4, h1, inR_true.2 (show (0 : Int) ≤ (r : Int) ∧ (r : Int) ≤ 500 by omega)]; rfl
theorem rests_ok (m : Mon) (hm : MonOk m) (D : Int) (hD : -10000 ≤ D ∧ D ≤ 10000) : AC Tryz.prog 35 [monV m, I D] (.tuple [I (m.restR D).1, I (m.restR D).2]) := by
  have hd := hm.d
  have w1 := checkMonitor_A m.d m.num m.den m.band
  have w2 := isSwing_A D
  have e1 : mnE m.d m.num m.den m.band = 0 := by
    unfold mnE
    rw [inR_true.2 (show 0 ≤ (m.d : Int) ∧ (m.d : Int) ≤ 10 by omega), inR_true.2 hm.n, inR_true.2 hm.e, inR_true.2 hm.b]; rfl
  rw [e1] at w1
  rw [inR_true.2 hD] at w2
  have ho := outputs_A m (K := 84) (fv := .fn (.func 84) [] [.ref [I D]]) .fn
  -- the ticks at which the outputs are small
  obtain ⟨T, hT, hcase⟩ : ∃ T, (∀ j, j ≤ T → -100000 ≤ m.o D j ∧ m.o D j ≤ 100000) ∧ ((T = 500 ∧ bigO (m.o D) 501 = false) ∨ (T + 1 < 501 ∧ bigO (m.o D) 501 = true ∧ inR (m.o D (T + 1)) (-100000) 100000 = false)) := by
    cases hb : bigO (m.o D) 501
    · exact ⟨500, fun j hj => bigO_false.1 hb j (by omega), .inl ⟨rfl, rfl⟩⟩
    · have key : ∀ n, bigO (m.o D) n = true → ∃ t, t < n ∧ inR (m.o D t) (-100000) 100000 = false ∧ ∀ j, j < t → -100000 ≤ m.o D j ∧ m.o D j ≤ 100000 := fun n => by
        induction n with
        | zero => intro h; cases h
        | succ n ih =>
          intro h
          cases hn : bigO (m.o D) n
          · unfold bigO at h
            rw [hn] at h
            refine ⟨n, by omega, by simpa using h, bigO_false.1 hn⟩
          · obtain ⟨t, t1, t2, t3⟩ := ih hn
            exact ⟨t, by omega, t2, t3⟩
      obtain ⟨t, t1, t2, t3⟩ := key 501 hb
      rcases t with _ | t
      · exfalso
        have : m.o D 0 = D := by show D + m.cor _ 0 = D; exact Int.add_zero D
        rw [this, inR_true.2 (by omega)] at t2
        cases t2
      · exact ⟨t, fun j hj => t3 j (by omega), .inr ⟨t1, rfl, t2⟩⟩
  have hAY := outputs1_A m hm (fun _ => D) (T + m.d + 2) (by omega) (fun _ _ => hD) (out_bnd9 hm hT) 84 (EntI.eq (P := Tryz.prog) (f := 84)) .fn (fun t _ => rests1_A D t)
  have hyl : (outY m (fun _ => D) (T + m.d + 2)).length = T + m.d + 2 := by simp [outY]
  refine ac_body Tryz.func35 rfl (by kernel_rfl) fun w0 ok => ?_; show AWp _ (ctx0 w0 ok _) _ (ARet _ _ _) (entry _)
  (repeat' ((fail_if_success (with_reducible show AWp _ _ (.region 5 _ _) _ _)); (first | (with_reducible first | intro hg | refine mv (by constructor) ?_) | ((with_reducible first | refine zR ?_ ?_ | refine zW mixed ?_ ?_); exact kr) | ((with_reducible apply zK); exact rfl; exact tf) | ((with_reducible apply zCD); exact rfl) | ((with_reducible apply zCN); exact rfl) | ((with_reducible apply zC); exact rfl) | ((with_reducible refine zX ?_ ?_); exact rfl) | ((with_reducible refine zE (And.intro ?_ ?_)); exact kr) | (with_reducible refine zE ?_) | ((with_reducible apply zP); (first | exact dp | exact oc rfl (w1) | exact oc rfl (w2) | exact oc rfl (unless_A _ _) | exact oc rfl (first2_A _ _))) | ((with_reducible apply zN); exact dn) | ((with_reducible apply zA); exact da) | ((with_reducible apply zS); exact ds) | ((with_reducible apply zY); exact rfl; exact rfl; exact tf) | ((with_reducible apply zG); exact rfl; exact rfl; exact tf) | ((with_reducible apply zU); exact rfl; exact rfl) | ((with_reducible apply zD); exact rfl; exact rfl) | ((with_reducible apply zB); exact rfl; exact rfl))))
  refine awp_freeze 3 rfl ?_
  (repeat' (first | (with_reducible first | intro hg | refine mv (by constructor) ?_) | ((with_reducible first | refine zR ?_ ?_ | refine zW mixed ?_ ?_); exact kr) | ((with_reducible apply zK); exact rfl; exact tf) | ((with_reducible apply zCD); exact rfl) | ((with_reducible apply zCN); exact rfl) | ((with_reducible apply zC); exact rfl) | ((with_reducible refine zX ?_ ?_); exact rfl) | ((with_reducible refine zE (And.intro ?_ ?_)); exact kr) | (with_reducible refine zE ?_) | ((with_reducible apply zP); (first | exact dp | exact oc rfl (ho))) | ((with_reducible apply zN); exact dn) | ((with_reducible apply zA); exact da) | ((with_reducible apply zS); exact ds) | ((with_reducible apply zY); exact rfl; exact rfl; exact tf) | ((with_reducible apply zG); exact rfl; exact rfl; exact tf) | ((with_reducible apply zU); exact rfl; exact rfl) | ((with_reducible apply zD); exact rfl; exact rfl) | ((with_reducible apply zB); exact rfl; exact rfl)))
  refine awp_rangeFunc (psl := [25, 26]) (bs := []) (caps := [.ref [.fn (.func 84) [] [.ref [I D]]], .ref (monC m)]) (fin := false) (xs := outY m (fun _ => D) (T + m.d + 2)) (fun k (y : Int × Nat × Int) => rsS m 0 y.1 y.2.1 y.2.2)
    (fun k y => RestI (m.o D) m.d k y.1 y.2.1 ∧ (0 < k → y.2.2 = m.o D (k - 1)) ∧ (k ≤ T + 1 ∨ (T = 500 ∧ k ≤ 501 + m.d))) (-1, 0, 0) (EntI.eq (P := Tryz.prog) (f := 127)) (.fn rfl) hAY ⟨RestI.start _ _, fun h => absurd h (Nat.lt_irrefl 0), .inl (Nat.zero_le _)⟩ (le_of (And.intro rfl (And.intro rfl (And.intro rfl (And.intro rfl (And.intro rfl (And.intro rfl trivial)))))) (And.intro rfl (And.intro rfl (And.intro rfl (And.intro rfl (And.intro rfl (And.intro rfl trivial))))))) (by decide) (fun d hd => by obtain ⟨l, _, rfl⟩ := List.mem_map.1 hd; rfl) (fun k y d hI hd W ok' rd ex gv => ?_) (fun _ y hI => ?_) (by simp)
  rotate_left
  · rw [hyl] at hI
    obtain ⟨_, _, h3⟩ := hI
    omega
  obtain ⟨hk, rfl⟩ := outY_at hd
  obtain ⟨rest, s, l⟩ := y
  obtain ⟨hI1, hI2, hI3⟩ := hI
  have hI1 : RestI (m.o D) m.d k rest s := hI1
  have hI2 : 0 < k → l = m.o D (k - 1) := hI2
  have hsk := hI1.le
  have hq : m.out (fun _ => D) k = m.o D k := rfl
  have hsz := isSized_A (m.out (fun _ => D) k) 100000 ⟨by decide, by decide⟩
  have hbn := out_bnd9 hm hT k hk
  rw [hq] at hsz hbn ⊢
  clear hAY hyl ho w1 w2 e1 hd
  show AWp _ _ _ _ (bodyS (rsS m 0 rest s l) _ _)
  refine awp_cut [(25, .d (I k)), (26, .d (I (m.o D k))), (2, .ptr 2 0), (4, .ptr 4 0), (5, .ptr 5 0), (7, .ptr 7 0), (8, .ptr 8 0), (9, .ptr 9 0), (1000002, .ptr 2 0), (1000004, .ptr 4 0), (1000005, .ptr 5 0), (1000007, .ptr 7 0), (1000008, .ptr 8 0), (1000009, .ptr 9 0)] [(2, ⟨73, monC m⟩), (4, ⟨3, [I 0]⟩), (5, ⟨29, [I 0]⟩), (7, ⟨3, [I rest]⟩), (8, ⟨3, [I s]⟩), (9, ⟨3, [I l]⟩)] (And.intro rfl (And.intro rfl (And.intro rfl (And.intro rfl (And.intro rfl (And.intro rfl (And.intro rfl (And.intro rfl (And.intro rfl (And.intro rfl (And.intro rfl (And.intro rfl (And.intro rfl (And.intro rfl trivial)))))))))))))) (And.intro rfl (And.intro rfl (And.intro rfl (And.intro rfl (And.intro rfl (And.intro rfl trivial)))))) ?_
  (repeat' (first | (with_reducible first | intro hg | refine mv (by constructor) ?_) | ((with_reducible first | refine zR ?_ ?_ | refine zW mixed ?_ ?_); exact kr) | ((with_reducible apply zK); exact rfl; exact tf) | ((with_reducible apply zCD); exact rfl) | ((with_reducible apply zCN); exact rfl) | ((with_reducible apply zC); exact rfl) | ((with_reducible refine zX ?_ ?_); exact rfl) | ((with_reducible refine zE (And.intro ?_ ?_)); exact kr) | (with_reducible refine zE ?_) | ((with_reducible apply zP); exact dp) | ((with_reducible apply zN); exact dn) | ((with_reducible apply zA); exact da) | ((with_reducible apply zS); exact ds) | ((with_reducible apply zY); exact rfl; exact rfl; exact tf) | ((with_reducible apply zG); exact rfl; exact rfl; exact tf) | ((with_reducible apply zU); exact rfl; exact rfl) | ((with_reducible apply zD); exact rfl; exact rfl) | ((with_reducible apply zB); exact rfl; exact rfl)))
  refine ⟨rfl, fun W' => ?_⟩
  by_cases hk5 : k ≤ 500
  · cases hsm : inR (m.o D k) (-100000) 100000
    · -- too great
      rw [hsm] at hsz
      have hr : m.restR D = (0, 22) := by
        unfold Mon.restR
        rw [bigO_step (show k < 501 by omega) hsm]; rfl
      rw [hr]
      clear hI1 hI2 hI3 hcase hT hq
      (repeat' (first | (with_reducible first | intro hg | refine mv (by constructor) ?_) | ((with_reducible first | refine zR ?_ ?_ | refine zW mixed ?_ ?_); exact kr) | ((with_reducible apply zK); exact rfl; exact tf) | ((with_reducible apply zCD); exact rfl) | ((with_reducible apply zCN); exact rfl) | ((with_reducible apply zC); exact rfl) | ((with_reducible refine zX ?_ ?_); exact rfl) | ((with_reducible refine zE (And.intro ?_ ?_)); exact kr) | (with_reducible refine zE ?_) | ((with_reducible apply zP); (first | exact dp | exact oc rfl (hsz))) | ((with_reducible apply zN); exact dn) | ((with_reducible apply zA); exact da) | ((with_reducible apply zS); exact ds) | ((with_reducible apply zY); exact rfl; exact rfl; exact tf) | ((with_reducible apply zG); exact rfl; exact rfl; exact tf) | ((with_reducible apply zU); exact rfl; exact rfl) | ((with_reducible apply zD); exact rfl; exact rfl) | ((with_reducible apply zB); exact rfl; exact rfl)))
      refine ⟨trivial, ?_⟩
      show ARet _ _ _ .ret (uns _)
      ((with_reducible first | apply q_retR | apply q_retN); exact rl)
      rfl
    rw [hsm] at hsz
    have hnx : k + 1 ≤ T + 1 ∨ (T = 500 ∧ k + 1 ≤ 501 + m.d) := by
      rcases hcase with ⟨h1, _⟩ | ⟨_, _, h3⟩
      · omega
      · by_cases e : k = T + 1
        · rw [e, h3] at hsm; cases hsm
        · omega
    clear hcase hT hq
    have hlt : ¬ ((501 : Int) + m.d ≤ k) := by omega
    by_cases hs0 : 0 < s
    · by_cases hl : m.o D k = l
      · have hI1' := hI1.same hs0 (by rw [hl]; exact hI2 (by omega))
        by_cases hd2 : (m.d : Int) + 2 ≤ (s : Int) + 1
        · rw [decide_eq_true hd2, Bool.true_and] at hI1'
          by_cases hr0 : rest < 0
          · rw [decide_eq_true hr0] at hI1'
            (repeat' (first | (with_reducible first | intro hg | refine mv (by constructor) ?_) | ((with_reducible first | refine zR ?_ ?_ | refine zW mixed ?_ ?_); exact kr) | ((with_reducible apply zK); exact rfl; exact tf) | ((with_reducible apply zCD); exact rfl) | ((with_reducible apply zCN); exact rfl) | ((with_reducible apply zC); exact rfl) | ((with_reducible refine zX ?_ ?_); exact rfl) | ((with_reducible refine zE (And.intro ?_ ?_)); exact kr) | (with_reducible refine zE ?_) | ((with_reducible apply zP); (first | exact dp | exact oc rfl (hsz))) | ((with_reducible apply zN); exact dn) | ((with_reducible apply zA); exact da) | ((with_reducible apply zS); exact ds) | ((with_reducible apply zY); exact rfl; exact rfl; exact tf) | ((with_reducible apply zG); exact rfl; exact rfl; exact tf) | ((with_reducible apply zU); exact rfl; exact rfl) | ((with_reducible apply zD); exact rfl; exact rfl) | ((with_reducible apply zB); exact rfl; exact rfl)))
            exact ⟨trivial, ((k : Int) - (s + 1) + 1, s + 1, l), ⟨hI1', fun _ => hl.symm, hnx⟩, le_of (And.intro rfl (And.intro rfl (And.intro rfl (And.intro rfl (And.intro rfl (And.intro rfl trivial)))))) (And.intro rfl (And.intro rfl (And.intro rfl (And.intro rfl (And.intro rfl (And.intro rfl trivial))))))⟩
          · rw [decide_eq_false hr0] at hI1'
            (repeat' (first | (with_reducible first | intro hg | refine mv (by constructor) ?_) | ((with_reducible first | refine zR ?_ ?_ | refine zW mixed ?_ ?_); exact kr) | ((with_reducible apply zK); exact rfl; exact tf) | ((with_reducible apply zCD); exact rfl) | ((with_reducible apply zCN); exact rfl) | ((with_reducible apply zC); exact rfl) | ((with_reducible refine zX ?_ ?_); exact rfl) | ((with_reducible refine zE (And.intro ?_ ?_)); exact kr) | (with_reducible refine zE ?_) | ((with_reducible apply zP); (first | exact dp | exact oc rfl (hsz))) | ((with_reducible apply zN); exact dn) | ((with_reducible apply zA); exact da) | ((with_reducible apply zS); exact ds) | ((with_reducible apply zY); exact rfl; exact rfl; exact tf) | ((with_reducible apply zG); exact rfl; exact rfl; exact tf) | ((with_reducible apply zU); exact rfl; exact rfl) | ((with_reducible apply zD); exact rfl; exact rfl) | ((with_reducible apply zB); exact rfl; exact rfl)))
            exact ⟨trivial, (rest, s + 1, l), ⟨hI1', fun _ => hl.symm, hnx⟩, le_of (And.intro rfl (And.intro rfl (And.intro rfl (And.intro rfl (And.intro rfl (And.intro rfl trivial)))))) (And.intro rfl (And.intro rfl (And.intro rfl (And.intro rfl (And.intro rfl (And.intro rfl trivial))))))⟩
        · rw [decide_eq_false hd2, Bool.false_and] at hI1'
          (repeat' (first | (with_reducible first | intro hg | refine mv (by constructor) ?_) | ((with_reducible first | refine zR ?_ ?_ | refine zW mixed ?_ ?_); exact kr) | ((with_reducible apply zK); exact rfl; exact tf) | ((with_reducible apply zCD); exact rfl) | ((with_reducible apply zCN); exact rfl) | ((with_reducible apply zC); exact rfl) | ((with_reducible refine zX ?_ ?_); exact rfl) | ((with_reducible refine zE (And.intro ?_ ?_)); exact kr) | (with_reducible refine zE ?_) | ((with_reducible apply zP); (first | exact dp | exact oc rfl (hsz))) | ((with_reducible apply zN); exact dn) | ((with_reducible apply zA); exact da) | ((with_reducible apply zS); exact ds) | ((with_reducible apply zY); exact rfl; exact rfl; exact tf) | ((with_reducible apply zG); exact rfl; exact rfl; exact tf) | ((with_reducible apply zU); exact rfl; exact rfl) | ((with_reducible apply zD); exact rfl; exact rfl) | ((with_reducible apply zB); exact rfl; exact rfl)))
          exact ⟨trivial, (rest, s + 1, l), ⟨hI1', fun _ => hl.symm, hnx⟩, le_of (And.intro rfl (And.intro rfl (And.intro rfl (And.intro rfl (And.intro rfl (And.intro rfl trivial)))))) (And.intro rfl (And.intro rfl (And.intro rfl (And.intro rfl (And.intro rfl (And.intro rfl trivial))))))⟩
      · have hI1' := hI1.new (.inr (by rw [← hI2 (by omega)]; exact hl))
        (repeat' (first | (with_reducible first | intro hg | refine mv (by constructor) ?_) | ((with_reducible first | refine zR ?_ ?_ | refine zW mixed ?_ ?_); exact kr) | ((with_reducible apply zK); exact rfl; exact tf) | ((with_reducible apply zCD); exact rfl) | ((with_reducible apply zCN); exact rfl) | ((with_reducible apply zC); exact rfl) | ((with_reducible refine zX ?_ ?_); exact rfl) | ((with_reducible refine zE (And.intro ?_ ?_)); exact kr) | (with_reducible refine zE ?_) | ((with_reducible apply zP); (first | exact dp | exact oc rfl (hsz))) | ((with_reducible apply zN); exact dn) | ((with_reducible apply zA); exact da) | ((with_reducible apply zS); exact ds) | ((with_reducible apply zY); exact rfl; exact rfl; exact tf) | ((with_reducible apply zG); exact rfl; exact rfl; exact tf) | ((with_reducible apply zU); exact rfl; exact rfl) | ((with_reducible apply zD); exact rfl; exact rfl) | ((with_reducible apply zB); exact rfl; exact rfl)))
        exact ⟨trivial, (rest, 1, m.o D k), ⟨hI1', fun _ => rfl, hnx⟩, le_of (And.intro rfl (And.intro rfl (And.intro rfl (And.intro rfl (And.intro rfl (And.intro rfl trivial)))))) (And.intro rfl (And.intro rfl (And.intro rfl (And.intro rfl (And.intro rfl (And.intro rfl trivial))))))⟩
    · have hk0 : k = 0 := hI1.pos.resolve_right (by omega)
      have hI1' := hI1.new (.inl hk0)
      (repeat' (first | (with_reducible first | intro hg | refine mv (by constructor) ?_) | ((with_reducible first | refine zR ?_ ?_ | refine zW mixed ?_ ?_); exact kr) | ((with_reducible apply zK); exact rfl; exact tf) | ((with_reducible apply zCD); exact rfl) | ((with_reducible apply zCN); exact rfl) | ((with_reducible apply zC); exact rfl) | ((with_reducible refine zX ?_ ?_); exact rfl) | ((with_reducible refine zE (And.intro ?_ ?_)); exact kr) | (with_reducible refine zE ?_) | ((with_reducible apply zP); (first | exact dp | exact oc rfl (hsz))) | ((with_reducible apply zN); exact dn) | ((with_reducible apply zA); exact da) | ((with_reducible apply zS); exact ds) | ((with_reducible apply zY); exact rfl; exact rfl; exact tf) | ((with_reducible apply zG); exact rfl; exact rfl; exact tf) | ((with_reducible apply zU); exact rfl; exact rfl) | ((with_reducible apply zD); exact rfl; exact rfl) | ((with_reducible apply zB); exact rfl; exact rfl)))
      exact ⟨trivial, (rest, 1, m.o D k), ⟨hI1', fun _ => rfl, hnx⟩, le_of (And.intro rfl (And.intro rfl (And.intro rfl (And.intro rfl (And.intro rfl (And.intro rfl trivial)))))) (And.intro rfl (And.intro rfl (And.intro rfl (And.intro rfl (And.intro rfl (And.intro rfl trivial))))))⟩
  · obtain ⟨hT5, hk6⟩ : T = 500 ∧ k ≤ 501 + m.d := by
      rcases hI3 with h | h
      · omega
      · exact h
    have hb : bigO (m.o D) 501 = false := by
      rcases hcase with ⟨_, h⟩ | ⟨h, _⟩
      · exact h
      · omega
    have hend := fun rest s => rests_end (m := m) (D := D) (rest := rest) (s := s) hb
    have hk0 : ¬ k = 0 := by omega
    have hs0 : 0 < s := by have := hI1.pos; omega
    clear hcase hT hq hsz
    by_cases hbr : (501 : Int) + m.d ≤ k
    · have e : k + 1 = 502 + m.d := by omega
      by_cases hl : m.o D k = l
      · have hI1' := hI1.same hs0 (by rw [hl]; exact hI2 (by omega))
        by_cases hd2 : (m.d : Int) + 2 ≤ (s : Int) + 1
        · rw [decide_eq_true hd2, Bool.true_and] at hI1'
          by_cases hr0 : rest < 0
          · rw [decide_eq_true hr0, cond_true] at hI1'
            rw [e] at hI1'
            rw [hend _ _ hI1']
            (repeat' (first | (with_reducible first | intro hg | refine mv (by constructor) ?_) | ((with_reducible first | refine zR ?_ ?_ | refine zW mixed ?_ ?_); exact kr) | ((with_reducible apply zK); exact rfl; exact tf) | ((with_reducible apply zCD); exact rfl) | ((with_reducible apply zCN); exact rfl) | ((with_reducible apply zC); exact rfl) | ((with_reducible refine zX ?_ ?_); exact rfl) | ((with_reducible refine zE (And.intro ?_ ?_)); exact kr) | (with_reducible refine zE ?_) | ((with_reducible apply zP); exact dp) | ((with_reducible apply zN); exact dn) | ((with_reducible apply zA); exact da) | ((with_reducible apply zS); exact ds) | ((with_reducible apply zY); exact rfl; exact rfl; exact tf) | ((with_reducible apply zG); exact rfl; exact rfl; exact tf) | ((with_reducible apply zU); exact rfl; exact rfl) | ((with_reducible apply zD); exact rfl; exact rfl) | ((with_reducible apply zB); exact rfl; exact rfl)))
            refine ⟨trivial, ?_⟩
            show AWp _ (ctx0 w0 ok _) _ _ (uns _)
            refine awp_cut [(2, .ptr 2 0), (4, .ptr 4 0), (5, .ptr 5 0), (7, .ptr 7 0)] [(4, ⟨3, [I 0]⟩), (5, ⟨29, [I 0]⟩), (7, ⟨3, [I ((k : Int) - (s + 1) + 1)]⟩)] (And.intro rfl (And.intro rfl (And.intro rfl (And.intro rfl trivial)))) (And.intro rfl (And.intro rfl (And.intro rfl trivial))) ?_
            have hw := within_A ((k : Int) - (s + 1) + 1) 0 500
            clear hend hI1' hI1 hI2 hI3
            cases hin : inR ((k : Int) - (s + 1) + 1) 0 500
            all_goals
              rw [hin] at hw
              exact zF
          · rw [decide_eq_false hr0, cond_false] at hI1'
            rw [e] at hI1'
            rw [hend _ _ hI1']
            (repeat' (first | (with_reducible first | intro hg | refine mv (by constructor) ?_) | ((with_reducible first | refine zR ?_ ?_ | refine zW mixed ?_ ?_); exact kr) | ((with_reducible apply zK); exact rfl; exact tf) | ((with_reducible apply zCD); exact rfl) | ((with_reducible apply zCN); exact rfl) | ((with_reducible apply zC); exact rfl) | ((with_reducible refine zX ?_ ?_); exact rfl) | ((with_reducible refine zE (And.intro ?_ ?_)); exact kr) | (with_reducible refine zE ?_) | ((with_reducible apply zP); exact dp) | ((with_reducible apply zN); exact dn) | ((with_reducible apply zA); exact da) | ((with_reducible apply zS); exact ds) | ((with_reducible apply zY); exact rfl; exact rfl; exact tf) | ((with_reducible apply zG); exact rfl; exact rfl; exact tf) | ((with_reducible apply zU); exact rfl; exact rfl) | ((with_reducible apply zD); exact rfl; exact rfl) | ((with_reducible apply zB); exact rfl; exact rfl)))
            refine ⟨trivial, ?_⟩
            show AWp _ (ctx0 w0 ok _) _ _ (uns _)
            refine awp_cut [(2, .ptr 2 0), (4, .ptr 4 0), (5, .ptr 5 0), (7, .ptr 7 0)] [(4, ⟨3, [I 0]⟩), (5, ⟨29, [I 0]⟩), (7, ⟨3, [I (rest)]⟩)] (And.intro rfl (And.intro rfl (And.intro rfl (And.intro rfl trivial)))) (And.intro rfl (And.intro rfl (And.intro rfl trivial))) ?_
            have hw := within_A (rest) 0 500
            clear hend hI1' hI1 hI2 hI3
            cases hin : inR (rest) 0 500
            all_goals
              rw [hin] at hw
              exact zF
        · rw [decide_eq_false hd2, Bool.false_and, cond_false] at hI1'
          rw [e] at hI1'
          rw [hend _ _ hI1']
          (repeat' (first | (with_reducible first | intro hg | refine mv (by constructor) ?_) | ((with_reducible first | refine zR ?_ ?_ | refine zW mixed ?_ ?_); exact kr) | ((with_reducible apply zK); exact rfl; exact tf) | ((with_reducible apply zCD); exact rfl) | ((with_reducible apply zCN); exact rfl) | ((with_reducible apply zC); exact rfl) | ((with_reducible refine zX ?_ ?_); exact rfl) | ((with_reducible refine zE (And.intro ?_ ?_)); exact kr) | (with_reducible refine zE ?_) | ((with_reducible apply zP); exact dp) | ((with_reducible apply zN); exact dn) | ((with_reducible apply zA); exact da) | ((with_reducible apply zS); exact ds) | ((with_reducible apply zY); exact rfl; exact rfl; exact tf) | ((with_reducible apply zG); exact rfl; exact rfl; exact tf) | ((with_reducible apply zU); exact rfl; exact rfl) | ((with_reducible apply zD); exact rfl; exact rfl) | ((with_reducible apply zB); exact rfl; exact rfl)))
          refine ⟨trivial, ?_⟩
          show AWp _ (ctx0 w0 ok _) _ _ (uns _)
          refine awp_cut [(2, .ptr 2 0), (4, .ptr 4 0), (5, .ptr 5 0), (7, .ptr 7 0)] [(4, ⟨3, [I 0]⟩), (5, ⟨29, [I 0]⟩), (7, ⟨3, [I (rest)]⟩)] (And.intro rfl (And.intro rfl (And.intro rfl (And.intro rfl trivial)))) (And.intro rfl (And.intro rfl (And.intro rfl trivial))) ?_
          have hw := within_A (rest) 0 500
          clear hend hI1' hI1 hI2 hI3
          cases hin : inR (rest) 0 500
          all_goals
            rw [hin] at hw
            exact zF
      · have hI1' := hI1.new (.inr (by rw [← hI2 (by omega)]; exact hl))
        rw [e] at hI1'
        rw [hend _ _ hI1']
        (repeat' (first | (with_reducible first | intro hg | refine mv (by constructor) ?_) | ((with_reducible first | refine zR ?_ ?_ | refine zW mixed ?_ ?_); exact kr) | ((with_reducible apply zK); exact rfl; exact tf) | ((with_reducible apply zCD); exact rfl) | ((with_reducible apply zCN); exact rfl) | ((with_reducible apply zC); exact rfl) | ((with_reducible refine zX ?_ ?_); exact rfl) | ((with_reducible refine zE (And.intro ?_ ?_)); exact kr) | (with_reducible refine zE ?_) | ((with_reducible apply zP); exact dp) | ((with_reducible apply zN); exact dn) | ((with_reducible apply zA); exact da) | ((with_reducible apply zS); exact ds) | ((with_reducible apply zY); exact rfl; exact rfl; exact tf) | ((with_reducible apply zG); exact rfl; exact rfl; exact tf) | ((with_reducible apply zU); exact rfl; exact rfl) | ((with_reducible apply zD); exact rfl; exact rfl) | ((with_reducible apply zB); exact rfl; exact rfl)))
        refine ⟨trivial, ?_⟩
        show AWp _ (ctx0 w0 ok _) _ _ (uns _)
        refine awp_cut [(2, .ptr 2 0), (4, .ptr 4 0), (5, .ptr 5 0), (7, .ptr 7 0)] [(4, ⟨3, [I 0]⟩), (5, ⟨29, [I 0]⟩), (7, ⟨3, [I (rest)]⟩)] (And.intro rfl (And.intro rfl (And.intro rfl (And.intro rfl trivial)))) (And.intro rfl (And.intro rfl (And.intro rfl trivial))) ?_
        have hw := within_A (rest) 0 500
        clear hend hI1' hI1 hI2 hI3
        cases hin : inR (rest) 0 500
        all_goals
          rw [hin] at hw
          exact zF
    · have hnx : k + 1 ≤ T + 1 ∨ (T = 500 ∧ k + 1 ≤ 501 + m.d) := by omega
      by_cases hl : m.o D k = l
      · have hI1' := hI1.same hs0 (by rw [hl]; exact hI2 (by omega))
        by_cases hd2 : (m.d : Int) + 2 ≤ (s : Int) + 1
        · rw [decide_eq_true hd2, Bool.true_and] at hI1'
          by_cases hr0 : rest < 0
          · rw [decide_eq_true hr0] at hI1'
            (repeat' (first | (with_reducible first | intro hg | refine mv (by constructor) ?_) | ((with_reducible first | refine zR ?_ ?_ | refine zW mixed ?_ ?_); exact kr) | ((with_reducible apply zK); exact rfl; exact tf) | ((with_reducible apply zCD); exact rfl) | ((with_reducible apply zCN); exact rfl) | ((with_reducible apply zC); exact rfl) | ((with_reducible refine zX ?_ ?_); exact rfl) | ((with_reducible refine zE (And.intro ?_ ?_)); exact kr) | (with_reducible refine zE ?_) | ((with_reducible apply zP); exact dp) | ((with_reducible apply zN); exact dn) | ((with_reducible apply zA); exact da) | ((with_reducible apply zS); exact ds) | ((with_reducible apply zY); exact rfl; exact rfl; exact tf) | ((with_reducible apply zG); exact rfl; exact rfl; exact tf) | ((with_reducible apply zU); exact rfl; exact rfl) | ((with_reducible apply zD); exact rfl; exact rfl) | ((with_reducible apply zB); exact rfl; exact rfl)))
            exact ⟨trivial, ((k : Int) - (s + 1) + 1, s + 1, l), ⟨hI1', fun _ => hl.symm, hnx⟩, le_of (And.intro rfl (And.intro rfl (And.intro rfl (And.intro rfl (And.intro rfl (And.intro rfl trivial)))))) (And.intro rfl (And.intro rfl (And.intro rfl (And.intro rfl (And.intro rfl (And.intro rfl trivial))))))⟩
          · rw [decide_eq_false hr0] at hI1'
            (repeat' (first | (with_reducible first | intro hg | refine mv (by constructor) ?_) | ((with_reducible first | refine zR ?_ ?_ | refine zW mixed ?_ ?_); exact kr) | ((with_reducible apply zK); exact rfl; exact tf) | ((with_reducible apply zCD); exact rfl) | ((with_reducible apply zCN); exact rfl) | ((with_reducible apply zC); exact rfl) | ((with_reducible refine zX ?_ ?_); exact rfl) | ((with_reducible refine zE (And.intro ?_ ?_)); exact kr) | (with_reducible refine zE ?_) | ((with_reducible apply zP); exact dp) | ((with_reducible apply zN); exact dn) | ((with_reducible apply zA); exact da) | ((with_reducible apply zS); exact ds) | ((with_reducible apply zY); exact rfl; exact rfl; exact tf) | ((with_reducible apply zG); exact rfl; exact rfl; exact tf) | ((with_reducible apply zU); exact rfl; exact rfl) | ((with_reducible apply zD); exact rfl; exact rfl) | ((with_reducible apply zB); exact rfl; exact rfl)))
            exact ⟨trivial, (rest, s + 1, l), ⟨hI1', fun _ => hl.symm, hnx⟩, le_of (And.intro rfl (And.intro rfl (And.intro rfl (And.intro rfl (And.intro rfl (And.intro rfl trivial)))))) (And.intro rfl (And.intro rfl (And.intro rfl (And.intro rfl (And.intro rfl (And.intro rfl trivial))))))⟩
        · rw [decide_eq_false hd2, Bool.false_and] at hI1'
          (repeat' (first | (with_reducible first | intro hg | refine mv (by constructor) ?_) | ((with_reducible first | refine zR ?_ ?_ | refine zW mixed ?_ ?_); exact kr) | ((with_reducible apply zK); exact rfl; exact tf) | ((with_reducible apply zCD); exact rfl) | ((with_reducible apply zCN); exact rfl) | ((with_reducible apply zC); exact rfl) | ((with_reducible refine zX ?_ ?_); exact rfl) | ((with_reducible refine zE (And.intro ?_ ?_)); exact kr) | (with_reducible refine zE ?_) | ((with_reducible apply zP); exact dp) | ((with_reducible apply zN); exact dn) | ((with_reducible apply zA); exact da) | ((with_reducible apply zS); exact ds) | ((with_reducible apply zY); exact rfl; exact rfl; exact tf) | ((with_reducible apply zG); exact rfl; exact rfl; exact tf) | ((with_reducible apply zU); exact rfl; exact rfl) | ((with_reducible apply zD); exact rfl; exact rfl) | ((with_reducible apply zB); exact rfl; exact rfl)))
          exact ⟨trivial, (rest, s + 1, l), ⟨hI1', fun _ => hl.symm, hnx⟩, le_of (And.intro rfl (And.intro rfl (And.intro rfl (And.intro rfl (And.intro rfl (And.intro rfl trivial)))))) (And.intro rfl (And.intro rfl (And.intro rfl (And.intro rfl (And.intro rfl (And.intro rfl trivial))))))⟩
      · have hI1' := hI1.new (.inr (by rw [← hI2 (by omega)]; exact hl))
        (repeat' (first | (with_reducible first | intro hg | refine mv (by constructor) ?_) | ((with_reducible first | refine zR ?_ ?_ | refine zW mixed ?_ ?_); exact kr) | ((with_reducible apply zK); exact rfl; exact tf) | ((with_reducible apply zCD); exact rfl) | ((with_reducible apply zCN); exact rfl) | ((with_reducible apply zC); exact rfl) | ((with_reducible refine zX ?_ ?_); exact rfl) | ((with_reducible refine zE (And.intro ?_ ?_)); exact kr) | (with_reducible refine zE ?_) | ((with_reducible apply zP); exact dp) | ((with_reducible apply zN); exact dn) | ((with_reducible apply zA); exact da) | ((with_reducible apply zS); exact ds) | ((with_reducible apply zY); exact rfl; exact rfl; exact tf) | ((with_reducible apply zG); exact rfl; exact rfl; exact tf) | ((with_reducible apply zU); exact rfl; exact rfl) | ((with_reducible apply zD); exact rfl; exact rfl) | ((with_reducible apply zB); exact rfl; exact rfl)))
        exact ⟨trivial, (rest, 1, m.o D k), ⟨hI1', fun _ => rfl, hnx⟩, le_of (And.intro rfl (And.intro rfl (And.intro rfl (And.intro rfl (And.intro rfl (And.intro rfl trivial)))))) (And.intro rfl (And.intro rfl (And.intro rfl (And.intro rfl (And.intro rfl (And.intro rfl trivial))))))⟩

end Go.Proofs.YtfcfmpdpjmbcnaaGreatDoor
