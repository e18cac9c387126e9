/- The law of monitors. -/
import Derived.Test.YtiabcffcbhlbiaaTr
import Derived.Test.YtiabcffcbhlbiaaXg
set_option linter.unusedVariables false
set_option linter.unusedSimpArgs false
namespace Go.Proofs.Ytiabcffcbhlbiaa
open Go.RowKit
set_option maxRecDepth 20000
set_option maxHeartbeats 8000000

theorem nilIn_A : AC Try.prog 33 [nilV, nilV] (B true) := by
  refine ac_body Try.func33 rfl (by kernel_rfl) fun w0 ok => ?_; show AWp _ (ctx0 w0 ok _) _ (ARet _ _ _) (entry _)
  (repeat' (first | (with_reducible first | intro hg | refine awp_seq ?_ | refine q_seq ?_ | refine q_blk ?_ | refine awp_block ?_ | refine awp_skip ?_ | refine awp_ret ?_ | refine awp_exit ?_ | refine q_seqE ?_ | refine q_seqR ?_ | refine q_blkR ?_ | refine q_blkE ?_) | ((with_reducible refine awp_region ?_ ?_); (focus exact kr)) | ((with_reducible refine awp_region_any mixed ?_ ?_); (focus exact kr)) | ((with_reducible apply awp_condT); (focus exact rfl); (focus exact tt)) | ((with_reducible apply awp_condF); (focus exact rfl); (focus exact ff)) | ((with_reducible apply awp_condD); (focus exact rfl)) | ((with_reducible apply awp_condN); (focus exact rfl)) | ((with_reducible apply awp_cond); (focus exact rfl)) | ((with_reducible refine q_blkX ?_ ?_); (focus exact rfl)) | ((with_reducible refine r_nil (And.intro ?_ ?_)); (focus exact kr)) | (with_reducible refine r_nil ?_) | ((with_reducible apply r_put); (focus exact dp)) | ((with_reducible apply r_new); (focus exact dn)) | ((with_reducible apply r_app); (focus exact da)) | ((with_reducible apply r_set); (focus exact ds)) | ((with_reducible apply r_putY); (focus exact rfl); (focus exact rfl); (focus exact tf); (focus exact dp)) | ((with_reducible apply r_newY); (focus exact rfl); (focus exact rfl); (focus exact tf); (focus exact dn)) | ((with_reducible apply r_noT); (focus exact rfl); (focus exact rfl); (focus exact ff)) | ((with_reducible apply r_noF); (focus exact rfl); (focus exact rfl); (focus exact tt)) | ((with_reducible apply r_noU); (focus exact rfl); (focus exact rfl)) | ((with_reducible apply r_splitD); (focus exact rfl); (focus exact rfl)) | ((with_reducible apply r_split); (focus exact rfl); (focus exact rfl))))
  refine awp_loopL (α := Nat) (fun k => [(0, .d nilV), (1, .d nilV), (5, .d (I k))]) (fun _ => []) (fun k => k = 0) (fun k => 0 - k) 0 rfl (And.intro rfl (And.intro rfl (And.intro rfl trivial))) trivial fun k hk => ?_
  subst hk
  (repeat' (first | (with_reducible first | intro hg | refine awp_seq ?_ | refine q_seq ?_ | refine q_blk ?_ | refine awp_block ?_ | refine awp_skip ?_ | refine awp_ret ?_ | refine awp_exit ?_ | refine q_seqE ?_ | refine q_seqR ?_ | refine q_blkR ?_ | refine q_blkE ?_) | ((with_reducible refine awp_region ?_ ?_); (focus exact kr)) | ((with_reducible refine awp_region_any mixed ?_ ?_); (focus exact kr)) | ((with_reducible apply awp_condT); (focus exact rfl); (focus exact tt)) | ((with_reducible apply awp_condF); (focus exact rfl); (focus exact ff)) | ((with_reducible apply awp_condD); (focus exact rfl)) | ((with_reducible apply awp_condN); (focus exact rfl)) | ((with_reducible apply awp_cond); (focus exact rfl)) | ((with_reducible refine q_blkX ?_ ?_); (focus exact rfl)) | ((with_reducible refine r_nil (And.intro ?_ ?_)); (focus exact kr)) | (with_reducible refine r_nil ?_) | ((with_reducible apply r_put); (focus exact dp)) | ((with_reducible apply r_new); (focus exact dn)) | ((with_reducible apply r_app); (focus exact da)) | ((with_reducible apply r_set); (focus exact ds)) | ((with_reducible apply r_putY); (focus exact rfl); (focus exact rfl); (focus exact tf); (focus exact dp)) | ((with_reducible apply r_newY); (focus exact rfl); (focus exact rfl); (focus exact tf); (focus exact dn)) | ((with_reducible apply r_noT); (focus exact rfl); (focus exact rfl); (focus exact ff)) | ((with_reducible apply r_noF); (focus exact rfl); (focus exact rfl); (focus exact tt)) | ((with_reducible apply r_noU); (focus exact rfl); (focus exact rfl)) | ((with_reducible apply r_splitD); (focus exact rfl); (focus exact rfl)) | ((with_reducible apply r_split); (focus exact rfl); (focus exact rfl))))
  ((with_reducible first | apply q_retR | apply q_retN); (focus exact rl))
  rfl
/-- Whatever Monitored and its reference say is the same. -/
theorem monitored_both (m : Mon) (hm : MonOk m) (xs : List Int) (h5 : xs.length ≤ 1000000) : ∃ v e, AC Try.prog 27 [monV m, isl xs] (.tuple [v, I e]) ∧ AC Try.prog 31 [monV m, isl xs] (.tuple [v, I e]) ∧ AC Try.prog 33 [v, v] (B true) := by
  have he : mnE m.d m.num m.den m.band = 0 := by
    have hd := hm.d
    unfold mnE
    rw [inR_true.2 (show 0 ≤ (m.d : Int) ∧ (m.d : Int) ≤ 10 by omega), inR_true.2 hm.n, inR_true.2 hm.e, inR_true.2 hm.b]; rfl
  have hE : moE (m.d, m.num, m.den, m.band) xs = fst0 [0, unl (decide ((xs.length : Int) ≤ 500)) 8, unl (!xs.any fun n => !inR n (-10000) 10000) 2] := by
    unfold moE
    rw [he]
  by_cases hl : xs.length ≤ 500
  rotate_left
  · have e8 : moE (m.d, m.num, m.den, m.band) xs = 8 := by rw [hE, decide_eq_false (by omega)]; rfl
    have h := monitored_err m.d m.num m.den m.band xs h5 (by rw [e8]; decide)
    rw [e8] at h
    exact ⟨nilV, 8, h, qmonitored_large m xs (by omega) h5, nilIn_A⟩
  cases hr : xs.any fun n => !inR n (-10000) 10000
  rotate_left
  · have e2 : moE (m.d, m.num, m.den, m.band) xs = 2 := by rw [hE, decide_eq_true (by omega), hr]; rfl
    have h := monitored_err m.d m.num m.den m.band xs h5 (by rw [e2]; decide)
    rw [e2] at h
    exact ⟨nilV, 2, h, qmonitored_range m xs hl hr, nilIn_A⟩
  have hx : ∀ x ∈ xs, -10000 ≤ x ∧ x ≤ 10000 := fun x hx => by
    have h := List.any_eq_false.1 hr x hx
    exact inR_true.1 (by simpa using h)
  have hxi : ∀ t, t < xs.length → -10000 ≤ nth xs t ∧ nth xs t ≤ 10000 := fun t ht => hx _ (nth_mem ht)
  have hxr : ∀ t, t < xs.length → inR (nth xs t) (-10000) 10000 = true := fun t ht => inR_true.2 (hxi t ht)
  by_cases h0 : xs.length = 0
  · have hn : xs = [] := List.eq_nil_of_length_eq_zero h0
    subst hn
    have hq := qmonitored_A m [] hl hxr nilV true (qoutputs_nil m)
    exact ⟨nilV, 0, monitored_zero m.d m.num m.den m.band he, hq, nilIn_A⟩
  cases hb : bigO (m.out (nth xs)) xs.length
  · have ho := bigO_false.1 hb
    have hX := AC.of_x (qoutputs_X m hm xs xs.length rfl (by omega) h5 hxi ho) rfl
    have hv : DV.slice xs.length (ivs (lst (m.out (nth xs)) xs.length)) = isl (lst (m.out (nth xs)) xs.length) := by
      show _ = DV.slice (lst _ _).length _
      rw [lst_length]
    rw [hv] at hX
    have hq := qmonitored_A m xs hl hxr _ true hX
    have hi := ints_A (lst (m.out (nth xs)) xs.length) (lst (m.out (nth xs)) xs.length) (by rw [lst_length]; omega) (by rw [lst_length]; omega)
    rw [decide_eq_true rfl] at hi
    exact ⟨_, 0, monitored_ok m hm xs (by omega) hl hx ho, hq, hi⟩
  · obtain ⟨T, t1, t2, t3⟩ := bigO_first _ hb
    have hT0 : 0 < T := by
      rcases T with _ | T
      · have e : m.out (nth xs) 0 = nth xs 0 := by show nth xs 0 + m.cor (nth xs) 0 = _; exact Int.add_zero _
        rw [e, inR_true.2 (by have := hxi 0 t1; omega)] at t2
        cases t2
      · omega
    have hbT : (m.out (nth xs) T).natAbs ≤ 1000000000 := by
      obtain ⟨S, rfl⟩ : ∃ S, T = S + 1 := ⟨T - 1, by omega⟩
      have h1 := t3 S (by omega)
      have h2 := hxi S (by omega)
      have h3 := hxi (S + 1) t1
      have e1 : m.out (nth xs) S = nth xs S + m.cor (nth xs) S := rfl
      have e2 : m.out (nth xs) (S + 1) = nth xs (S + 1) + m.cor (nth xs) (S + 1) := rfl
      by_cases hd : S < m.d
      · rw [m.cor_lt _ hd] at e2
        omega
      · rw [m.cor_ge _ (show m.d ≤ S by omega)] at e2
        have := cr_bnd5 hm (t3 (S - m.d) (by omega))
        omega
    have hq := qmonitored_A m xs hl hxr _ false (qoutputs_big m hm xs h5 T t1 hxi t3 t2 hbT)
    exact ⟨nilV, 22, monitored_big m hm xs hl hx T t1 t3 t2, hq, nilIn_A⟩
theorem rests_both (m : Mon) (hm : MonOk m) (D : Int) : ∃ a b, AC Try.prog 28 [monV m, I D] (.tuple [I a, I b]) ∧ AC Try.prog 32 [monV m, I D] (.tuple [I a, I b]) := by
  have he : mnE m.d m.num m.den m.band = 0 := by
    have hd := hm.d
    unfold mnE
    rw [inR_true.2 (show 0 ≤ (m.d : Int) ∧ (m.d : Int) ≤ 10 by omega), inR_true.2 hm.n, inR_true.2 hm.e, inR_true.2 hm.b]; rfl
  cases hD : inR D (-10000) 10000
  · have e2 : fst0 [mnE m.d m.num m.den m.band, unl (inR D (-10000) 10000) 2] = 2 := by rw [he, hD]; rfl
    have h := rests_err m.d m.num m.den m.band D (by rw [e2]; decide)
    rw [e2] at h
    exact ⟨0, 2, h, qrests_err m D hD⟩
  · have h := qrests_A m hm D (inR_true.1 hD)
    rw [m.rest_eq D] at h
    exact ⟨_, _, rests_ok m hm D (inR_true.1 hD), h⟩
theorem gaugeMonitors_A (aw : AC Try.prog 26 [] (B true)) (d n e b : Int) (xs : List Int) (D : Int) (hm : xs.length ≤ 140737488355328) : AC Try.prog 4 [.agg [I d, I n, I e, I b], isl xs, I D] (B true) := by
  by_cases hl1 : 60 < xs.length ∧ xs.length ≤ 500
  · obtain ⟨h1, h2⟩ := hl1
    refine ac_body Try.func4 rfl (by kernel_rfl) fun w0 ok => ?_; show AWp _ (ctx0 w0 ok _) _ (ARet _ _ _) (entry _)
    (repeat' (first | (with_reducible first | intro hg | refine awp_seq ?_ | refine q_seq ?_ | refine q_blk ?_ | refine awp_block ?_ | refine awp_skip ?_ | refine awp_ret ?_ | refine awp_exit ?_ | refine q_seqE ?_ | refine q_seqR ?_ | refine q_blkR ?_ | refine q_blkE ?_) | ((with_reducible refine awp_region ?_ ?_); (focus exact kr)) | ((with_reducible refine awp_region_any mixed ?_ ?_); (focus exact kr)) | ((with_reducible apply awp_condT); (focus exact rfl); (focus exact tt)) | ((with_reducible apply awp_condF); (focus exact rfl); (focus exact ff)) | ((with_reducible apply awp_condD); (focus exact rfl)) | ((with_reducible apply awp_condN); (focus exact rfl)) | ((with_reducible apply awp_cond); (focus exact rfl)) | ((with_reducible refine q_blkX ?_ ?_); (focus exact rfl)) | ((with_reducible refine r_nil (And.intro ?_ ?_)); (focus exact kr)) | (with_reducible refine r_nil ?_) | ((with_reducible apply r_put); (focus (first | exact dp | exact oc rfl (aw)))) | ((with_reducible apply r_new); (focus exact dn)) | ((with_reducible apply r_app); (focus exact da)) | ((with_reducible apply r_set); (focus exact ds)) | ((with_reducible apply r_putY); (focus exact rfl); (focus exact rfl); (focus exact tf); (focus (first | exact dp | exact oc rfl (aw)))) | ((with_reducible apply r_newY); (focus exact rfl); (focus exact rfl); (focus exact tf); (focus exact dn)) | ((with_reducible apply r_noT); (focus exact rfl); (focus exact rfl); (focus exact ff)) | ((with_reducible apply r_noF); (focus exact rfl); (focus exact rfl); (focus exact tt)) | ((with_reducible apply r_noU); (focus exact rfl); (focus exact rfl)) | ((with_reducible apply r_splitD); (focus exact rfl); (focus exact rfl)) | ((with_reducible apply r_split); (focus exact rfl); (focus exact rfl))))
    ((with_reducible first | apply q_retR | apply q_retN); (focus exact rl))
    rfl
  by_cases hl2 : 502 < xs.length
  · refine ac_body Try.func4 rfl (by kernel_rfl) fun w0 ok => ?_; show AWp _ (ctx0 w0 ok _) _ (ARet _ _ _) (entry _)
    (repeat' (first | (with_reducible first | intro hg | refine awp_seq ?_ | refine q_seq ?_ | refine q_blk ?_ | refine awp_block ?_ | refine awp_skip ?_ | refine awp_ret ?_ | refine awp_exit ?_ | refine q_seqE ?_ | refine q_seqR ?_ | refine q_blkR ?_ | refine q_blkE ?_) | ((with_reducible refine awp_region ?_ ?_); (focus exact kr)) | ((with_reducible refine awp_region_any mixed ?_ ?_); (focus exact kr)) | ((with_reducible apply awp_condT); (focus exact rfl); (focus exact tt)) | ((with_reducible apply awp_condF); (focus exact rfl); (focus exact ff)) | ((with_reducible apply awp_condD); (focus exact rfl)) | ((with_reducible apply awp_condN); (focus exact rfl)) | ((with_reducible apply awp_cond); (focus exact rfl)) | ((with_reducible refine q_blkX ?_ ?_); (focus exact rfl)) | ((with_reducible refine r_nil (And.intro ?_ ?_)); (focus exact kr)) | (with_reducible refine r_nil ?_) | ((with_reducible apply r_put); (focus (first | exact dp | exact oc rfl (aw)))) | ((with_reducible apply r_new); (focus exact dn)) | ((with_reducible apply r_app); (focus exact da)) | ((with_reducible apply r_set); (focus exact ds)) | ((with_reducible apply r_putY); (focus exact rfl); (focus exact rfl); (focus exact tf); (focus (first | exact dp | exact oc rfl (aw)))) | ((with_reducible apply r_newY); (focus exact rfl); (focus exact rfl); (focus exact tf); (focus exact dn)) | ((with_reducible apply r_noT); (focus exact rfl); (focus exact rfl); (focus exact ff)) | ((with_reducible apply r_noF); (focus exact rfl); (focus exact rfl); (focus exact tt)) | ((with_reducible apply r_noU); (focus exact rfl); (focus exact rfl)) | ((with_reducible apply r_splitD); (focus exact rfl); (focus exact rfl)) | ((with_reducible apply r_split); (focus exact rfl); (focus exact rfl))))
    ((with_reducible first | apply q_retR | apply q_retN); (focus exact rl))
    rfl
  have hl3 : xs.length ≤ 502 := by omega
  have wi := copyInts_A xs (by omega)
  have wc := checkMonitor_A d n e b
  have we := qmonitorErr_A d n e b
  by_cases he : mnE d n e b = 0
  rotate_left
  · have f1 : moE (d, n, e, b) xs = mnE d n e b := by unfold moE; exact fst0_ne he _
    have f2 : fst0 [mnE d n e b, unl (inR D (-10000) 10000) 2] = mnE d n e b := fst0_ne he _
    have wm := monitored_err d n e b xs (by omega) (by rw [f1]; exact he)
    have wr1 := rests_err d n e b D (by rw [f2]; exact he)
    rw [f1] at wm
    rw [f2] at wr1
    generalize mnE d n e b = u at *
    clear f1 f2
    by_cases h60 : xs.length ≤ 60
    · refine ac_body Try.func4 rfl (by kernel_rfl) fun w0 ok => ?_; show AWp _ (ctx0 w0 ok _) _ (ARet _ _ _) (entry _)
      (repeat' (first | (with_reducible first | intro hg | refine awp_seq ?_ | refine q_seq ?_ | refine q_blk ?_ | refine awp_block ?_ | refine awp_skip ?_ | refine awp_ret ?_ | refine awp_exit ?_ | refine q_seqE ?_ | refine q_seqR ?_ | refine q_blkR ?_ | refine q_blkE ?_) | ((with_reducible refine awp_region ?_ ?_); (focus exact kr)) | ((with_reducible refine awp_region_any mixed ?_ ?_); (focus exact kr)) | ((with_reducible apply awp_condT); (focus exact rfl); (focus exact tt)) | ((with_reducible apply awp_condF); (focus exact rfl); (focus exact ff)) | ((with_reducible apply awp_condD); (focus exact rfl)) | ((with_reducible apply awp_condN); (focus exact rfl)) | ((with_reducible apply awp_cond); (focus exact rfl)) | ((with_reducible refine q_blkX ?_ ?_); (focus exact rfl)) | ((with_reducible refine r_nil (And.intro ?_ ?_)); (focus exact kr)) | (with_reducible refine r_nil ?_) | ((with_reducible apply r_put); (focus (first | exact dp | exact oc rfl (aw) | exact oc rfl (wi) | exact oc rfl (wc) | exact oc rfl (we) | exact oc rfl (wm) | exact oc rfl (wr1)))) | ((with_reducible apply r_new); (focus exact dn)) | ((with_reducible apply r_app); (focus exact da)) | ((with_reducible apply r_set); (focus exact ds)) | ((with_reducible apply r_putY); (focus exact rfl); (focus exact rfl); (focus exact tf); (focus (first | exact dp | exact oc rfl (aw) | exact oc rfl (wi) | exact oc rfl (wc) | exact oc rfl (we) | exact oc rfl (wm) | exact oc rfl (wr1)))) | ((with_reducible apply r_newY); (focus exact rfl); (focus exact rfl); (focus exact tf); (focus exact dn)) | ((with_reducible apply r_noT); (focus exact rfl); (focus exact rfl); (focus exact ff)) | ((with_reducible apply r_noF); (focus exact rfl); (focus exact rfl); (focus exact tt)) | ((with_reducible apply r_noU); (focus exact rfl); (focus exact rfl)) | ((with_reducible apply r_splitD); (focus exact rfl); (focus exact rfl)) | ((with_reducible apply r_split); (focus exact rfl); (focus exact rfl))))
      ((with_reducible first | apply q_retR | apply q_retN); (focus exact rl))
      rfl
    · have h500 : 500 < xs.length := by omega
      clear hl1
      refine ac_body Try.func4 rfl (by kernel_rfl) fun w0 ok => ?_; show AWp _ (ctx0 w0 ok _) _ (ARet _ _ _) (entry _)
      (repeat' (first | (with_reducible first | intro hg | refine awp_seq ?_ | refine q_seq ?_ | refine q_blk ?_ | refine awp_block ?_ | refine awp_skip ?_ | refine awp_ret ?_ | refine awp_exit ?_ | refine q_seqE ?_ | refine q_seqR ?_ | refine q_blkR ?_ | refine q_blkE ?_) | ((with_reducible refine awp_region ?_ ?_); (focus exact kr)) | ((with_reducible refine awp_region_any mixed ?_ ?_); (focus exact kr)) | ((with_reducible apply awp_condT); (focus exact rfl); (focus exact tt)) | ((with_reducible apply awp_condF); (focus exact rfl); (focus exact ff)) | ((with_reducible apply awp_condD); (focus exact rfl)) | ((with_reducible apply awp_condN); (focus exact rfl)) | ((with_reducible apply awp_cond); (focus exact rfl)) | ((with_reducible refine q_blkX ?_ ?_); (focus exact rfl)) | ((with_reducible refine r_nil (And.intro ?_ ?_)); (focus exact kr)) | (with_reducible refine r_nil ?_) | ((with_reducible apply r_put); (focus (first | exact dp | exact oc rfl (aw) | exact oc rfl (wi) | exact oc rfl (wc) | exact oc rfl (we) | exact oc rfl (wm) | exact oc rfl (wr1)))) | ((with_reducible apply r_new); (focus exact dn)) | ((with_reducible apply r_app); (focus exact da)) | ((with_reducible apply r_set); (focus exact ds)) | ((with_reducible apply r_putY); (focus exact rfl); (focus exact rfl); (focus exact tf); (focus (first | exact dp | exact oc rfl (aw) | exact oc rfl (wi) | exact oc rfl (wc) | exact oc rfl (we) | exact oc rfl (wm) | exact oc rfl (wr1)))) | ((with_reducible apply r_newY); (focus exact rfl); (focus exact rfl); (focus exact tf); (focus exact dn)) | ((with_reducible apply r_noT); (focus exact rfl); (focus exact rfl); (focus exact ff)) | ((with_reducible apply r_noF); (focus exact rfl); (focus exact rfl); (focus exact tt)) | ((with_reducible apply r_noU); (focus exact rfl); (focus exact rfl)) | ((with_reducible apply r_splitD); (focus exact rfl); (focus exact rfl)) | ((with_reducible apply r_split); (focus exact rfl); (focus exact rfl))))
      ((with_reducible first | apply q_retR | apply q_retN); (focus exact rl))
      rfl
  rw [he] at wc we
  obtain ⟨k, rfl, hm⟩ := mnE_ok he
  obtain ⟨v, c, w1, w2, w3⟩ := monitored_both ⟨k, n, e, b⟩ hm xs (by omega)
  obtain ⟨x, y, w4, w5⟩ := rests_both ⟨k, n, e, b⟩ hm D
  clear he hm
  by_cases h60 : xs.length ≤ 60
  · refine ac_body Try.func4 rfl (by kernel_rfl) fun w0 ok => ?_; show AWp _ (ctx0 w0 ok _) _ (ARet _ _ _) (entry _)
    (repeat' (first | (with_reducible first | intro hg | refine awp_seq ?_ | refine q_seq ?_ | refine q_blk ?_ | refine awp_block ?_ | refine awp_skip ?_ | refine awp_ret ?_ | refine awp_exit ?_ | refine q_seqE ?_ | refine q_seqR ?_ | refine q_blkR ?_ | refine q_blkE ?_) | ((with_reducible refine awp_region ?_ ?_); (focus exact kr)) | ((with_reducible refine awp_region_any mixed ?_ ?_); (focus exact kr)) | ((with_reducible apply awp_condT); (focus exact rfl); (focus exact tt)) | ((with_reducible apply awp_condF); (focus exact rfl); (focus exact ff)) | ((with_reducible apply awp_condD); (focus exact rfl)) | ((with_reducible apply awp_condN); (focus exact rfl)) | ((with_reducible apply awp_cond); (focus exact rfl)) | ((with_reducible refine q_blkX ?_ ?_); (focus exact rfl)) | ((with_reducible refine r_nil (And.intro ?_ ?_)); (focus exact kr)) | (with_reducible refine r_nil ?_) | ((with_reducible apply r_put); (focus (first | exact dp | exact oc rfl (aw) | exact oc rfl (wi) | exact oc rfl (wc) | exact oc rfl (we) | exact oc rfl (w1) | exact oc rfl (w2) | exact oc rfl (w3) | exact oc rfl (w4) | exact oc rfl (w5)))) | ((with_reducible apply r_new); (focus exact dn)) | ((with_reducible apply r_app); (focus exact da)) | ((with_reducible apply r_set); (focus exact ds)) | ((with_reducible apply r_putY); (focus exact rfl); (focus exact rfl); (focus exact tf); (focus (first | exact dp | exact oc rfl (aw) | exact oc rfl (wi) | exact oc rfl (wc) | exact oc rfl (we) | exact oc rfl (w1) | exact oc rfl (w2) | exact oc rfl (w3) | exact oc rfl (w4) | exact oc rfl (w5)))) | ((with_reducible apply r_newY); (focus exact rfl); (focus exact rfl); (focus exact tf); (focus exact dn)) | ((with_reducible apply r_noT); (focus exact rfl); (focus exact rfl); (focus exact ff)) | ((with_reducible apply r_noF); (focus exact rfl); (focus exact rfl); (focus exact tt)) | ((with_reducible apply r_noU); (focus exact rfl); (focus exact rfl)) | ((with_reducible apply r_splitD); (focus exact rfl); (focus exact rfl)) | ((with_reducible apply r_split); (focus exact rfl); (focus exact rfl))))
    ((with_reducible first | apply q_retR | apply q_retN); (focus exact rl))
    exact congrArg (fun b => resDV [B b]) (decide_eq_true rfl).symm
  · have h500 : 500 < xs.length := by omega
    clear hl1
    refine ac_body Try.func4 rfl (by kernel_rfl) fun w0 ok => ?_; show AWp _ (ctx0 w0 ok _) _ (ARet _ _ _) (entry _)
    (repeat' (first | (with_reducible first | intro hg | refine awp_seq ?_ | refine q_seq ?_ | refine q_blk ?_ | refine awp_block ?_ | refine awp_skip ?_ | refine awp_ret ?_ | refine awp_exit ?_ | refine q_seqE ?_ | refine q_seqR ?_ | refine q_blkR ?_ | refine q_blkE ?_) | ((with_reducible refine awp_region ?_ ?_); (focus exact kr)) | ((with_reducible refine awp_region_any mixed ?_ ?_); (focus exact kr)) | ((with_reducible apply awp_condT); (focus exact rfl); (focus exact tt)) | ((with_reducible apply awp_condF); (focus exact rfl); (focus exact ff)) | ((with_reducible apply awp_condD); (focus exact rfl)) | ((with_reducible apply awp_condN); (focus exact rfl)) | ((with_reducible apply awp_cond); (focus exact rfl)) | ((with_reducible refine q_blkX ?_ ?_); (focus exact rfl)) | ((with_reducible refine r_nil (And.intro ?_ ?_)); (focus exact kr)) | (with_reducible refine r_nil ?_) | ((with_reducible apply r_put); (focus (first | exact dp | exact oc rfl (aw) | exact oc rfl (wi) | exact oc rfl (wc) | exact oc rfl (we) | exact oc rfl (w1) | exact oc rfl (w2) | exact oc rfl (w3) | exact oc rfl (w4) | exact oc rfl (w5)))) | ((with_reducible apply r_new); (focus exact dn)) | ((with_reducible apply r_app); (focus exact da)) | ((with_reducible apply r_set); (focus exact ds)) | ((with_reducible apply r_putY); (focus exact rfl); (focus exact rfl); (focus exact tf); (focus (first | exact dp | exact oc rfl (aw) | exact oc rfl (wi) | exact oc rfl (wc) | exact oc rfl (we) | exact oc rfl (w1) | exact oc rfl (w2) | exact oc rfl (w3) | exact oc rfl (w4) | exact oc rfl (w5)))) | ((with_reducible apply r_newY); (focus exact rfl); (focus exact rfl); (focus exact tf); (focus exact dn)) | ((with_reducible apply r_noT); (focus exact rfl); (focus exact rfl); (focus exact ff)) | ((with_reducible apply r_noF); (focus exact rfl); (focus exact rfl); (focus exact tt)) | ((with_reducible apply r_noU); (focus exact rfl); (focus exact rfl)) | ((with_reducible apply r_splitD); (focus exact rfl); (focus exact rfl)) | ((with_reducible apply r_split); (focus exact rfl); (focus exact rfl))))
    ((with_reducible first | apply q_retR | apply q_retN); (focus exact rl))
    exact congrArg (fun b => resDV [B b]) (decide_eq_true rfl).symm

end Go.Proofs.Ytiabcffcbhlbiaa
