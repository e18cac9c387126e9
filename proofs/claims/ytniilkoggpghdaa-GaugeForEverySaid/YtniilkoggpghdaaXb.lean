/- The law of spans. -/
import Derived.Test.YtniilkoggpghdaaUk
set_option linter.unusedVariables false
set_option linter.unusedSimpArgs false
namespace Go.Proofs.Ytniilkoggpghdaa
open Go.RowKit
set_option maxRecDepth 20000
set_option maxHeartbeats 8000000

theorem bmod_A (n b : Int) (hn : I64 n) (hb : 0 < b) (hb2 : b ≤ 4611686018427387904) : AC Try.prog 20 [I n, I b] (I (n % b)) := by
  obtain ⟨hn1, hn2⟩ := hn
  have h2 := Int.tmod_lt_of_pos n hb
  have h3 : -b < n.tmod b := by have := Int.lt_tmod_of_pos n hb; omega
  by_cases h0 : 0 ≤ n
  · have h4 := Int.emod_nonneg n (by omega : b ≠ 0)
    have h5 := Int.emod_lt_of_pos n hb
    refine ac_body Try.func20 rfl (by kernel_rfl) fun w0 ok => ?_; show AWp _ (ctx0 w0 ok _) _ (ARet _ _ _) (entry _)
    (repeat' (first | (with_reducible first | intro hg | refine awp_seq ?_ | refine q_seq ?_ | refine q_blk ?_ | refine awp_block ?_ | refine awp_skip ?_ | refine awp_ret ?_ | refine awp_exit ?_ | refine q_seqE ?_ | refine q_seqR ?_ | refine q_blkR ?_ | refine q_blkE ?_) | ((with_reducible refine awp_region ?_ ?_); (focus exact kr)) | ((with_reducible refine awp_region_any mixed ?_ ?_); (focus exact kr)) | ((with_reducible apply awp_condT); (focus exact rfl); (focus exact tt)) | ((with_reducible apply awp_condF); (focus exact rfl); (focus exact ff)) | ((with_reducible apply awp_condD); (focus exact rfl)) | ((with_reducible apply awp_condN); (focus exact rfl)) | ((with_reducible apply awp_cond); (focus exact rfl)) | ((with_reducible refine q_blkX ?_ ?_); (focus exact rfl)) | ((with_reducible refine r_nil (And.intro ?_ ?_)); (focus exact kr)) | (with_reducible refine r_nil ?_) | ((with_reducible apply r_put); (focus exact dp)) | ((with_reducible apply r_new); (focus exact dn)) | ((with_reducible apply r_app); (focus exact da)) | ((with_reducible apply r_set); (focus exact ds)) | ((with_reducible apply r_putY); (focus exact rfl); (focus exact rfl); (focus exact tf); (focus exact dp)) | ((with_reducible apply r_newY); (focus exact rfl); (focus exact rfl); (focus exact tf); (focus exact dn)) | ((with_reducible apply r_noT); (focus exact rfl); (focus exact rfl); (focus exact ff)) | ((with_reducible apply r_noF); (focus exact rfl); (focus exact rfl); (focus exact tt)) | ((with_reducible apply r_noU); (focus exact rfl); (focus exact rfl)) | ((with_reducible apply r_splitD); (focus exact rfl); (focus exact rfl)) | ((with_reducible apply r_split); (focus exact rfl); (focus exact rfl))))
    ((with_reducible first | apply q_retR | apply q_retN); (focus exact rl))
    exact rt_int rfl
  · refine ac_body Try.func20 rfl (by kernel_rfl) fun w0 ok => ?_; show AWp _ (ctx0 w0 ok _) _ (ARet _ _ _) (entry _)
    (repeat' (first | (with_reducible first | intro hg | refine awp_seq ?_ | refine q_seq ?_ | refine q_blk ?_ | refine awp_block ?_ | refine awp_skip ?_ | refine awp_ret ?_ | refine awp_exit ?_ | refine q_seqE ?_ | refine q_seqR ?_ | refine q_blkR ?_ | refine q_blkE ?_) | ((with_reducible refine awp_region ?_ ?_); (focus exact kr)) | ((with_reducible refine awp_region_any mixed ?_ ?_); (focus exact kr)) | ((with_reducible apply awp_condT); (focus exact rfl); (focus exact tt)) | ((with_reducible apply awp_condF); (focus exact rfl); (focus exact ff)) | ((with_reducible apply awp_condD); (focus exact rfl)) | ((with_reducible apply awp_condN); (focus exact rfl)) | ((with_reducible apply awp_cond); (focus exact rfl)) | ((with_reducible refine q_blkX ?_ ?_); (focus exact rfl)) | ((with_reducible refine r_nil (And.intro ?_ ?_)); (focus exact kr)) | (with_reducible refine r_nil ?_) | ((with_reducible apply r_put); (focus exact dp)) | ((with_reducible apply r_new); (focus exact dn)) | ((with_reducible apply r_app); (focus exact da)) | ((with_reducible apply r_set); (focus exact ds)) | ((with_reducible apply r_putY); (focus exact rfl); (focus exact rfl); (focus exact tf); (focus exact dp)) | ((with_reducible apply r_newY); (focus exact rfl); (focus exact rfl); (focus exact tf); (focus exact dn)) | ((with_reducible apply r_noT); (focus exact rfl); (focus exact rfl); (focus exact ff)) | ((with_reducible apply r_noF); (focus exact rfl); (focus exact rfl); (focus exact tt)) | ((with_reducible apply r_noU); (focus exact rfl); (focus exact rfl)) | ((with_reducible apply r_splitD); (focus exact rfl); (focus exact rfl)) | ((with_reducible apply r_split); (focus exact rfl); (focus exact rfl))))
    all_goals ((with_reducible first | apply q_retR | apply q_retN); (focus exact rl))
    · exact rt_int (by rcases tmod_cases n b hb with ⟨h, e, _⟩ | ⟨h, e, _⟩ <;> omega)
    · exact rt_int (by rcases tmod_cases n b hb with ⟨h, e, _⟩ | ⟨h, e, _⟩ <;> omega)
/-- A fraction in lowest terms with small parts. -/
structure LowF (f : Fr) : Prop where
  n : f.1.natAbs ≤ 1000000000
  p : 0 < f.2
  d : f.2 ≤ 1000000
  g : Int.gcd f.1 f.2 = 1
theorem LowF.sm {f : Fr} (h : LowF f) : SmF f := ⟨h.n, h.p, h.d⟩
theorem bisLowest_A (f : Fr) (h : LowF f) : AC Try.prog 32 [F2 f] (B true) := by
  have a1 := bgcd_A f.1 f.2 ⟨by have := h.n; omega, by have := h.n; omega⟩ ⟨by have := h.p; omega, by have := h.d; omega⟩
  rw [h.g] at a1
  have h0 := h.p
  refine ac_body Try.func32 rfl (by kernel_rfl) fun w0 ok => ?_; show AWp _ (ctx0 w0 ok _) _ (ARet _ _ _) (entry _)
  (repeat' (first | (with_reducible first | intro hg | refine awp_seq ?_ | refine q_seq ?_ | refine q_blk ?_ | refine awp_block ?_ | refine awp_skip ?_ | refine awp_ret ?_ | refine awp_exit ?_ | refine q_seqE ?_ | refine q_seqR ?_ | refine q_blkR ?_ | refine q_blkE ?_) | ((with_reducible refine awp_region ?_ ?_); (focus exact kr)) | ((with_reducible refine awp_region_any mixed ?_ ?_); (focus exact kr)) | ((with_reducible apply awp_condT); (focus exact rfl); (focus exact tt)) | ((with_reducible apply awp_condF); (focus exact rfl); (focus exact ff)) | ((with_reducible apply awp_condD); (focus exact rfl)) | ((with_reducible apply awp_condN); (focus exact rfl)) | ((with_reducible apply awp_cond); (focus exact rfl)) | ((with_reducible refine q_blkX ?_ ?_); (focus exact rfl)) | ((with_reducible refine r_nil (And.intro ?_ ?_)); (focus exact kr)) | (with_reducible refine r_nil ?_) | ((with_reducible apply r_put); (focus (first | exact dp | exact oc rfl (a1)))) | ((with_reducible apply r_new); (focus exact dn)) | ((with_reducible apply r_app); (focus exact da)) | ((with_reducible apply r_set); (focus exact ds)) | ((with_reducible apply r_putY); (focus exact rfl); (focus exact rfl); (focus exact tf); (focus (first | exact dp | exact oc rfl (a1)))) | ((with_reducible apply r_newY); (focus exact rfl); (focus exact rfl); (focus exact tf); (focus exact dn)) | ((with_reducible apply r_noT); (focus exact rfl); (focus exact rfl); (focus exact ff)) | ((with_reducible apply r_noF); (focus exact rfl); (focus exact rfl); (focus exact tt)) | ((with_reducible apply r_noU); (focus exact rfl); (focus exact rfl)) | ((with_reducible apply r_splitD); (focus exact rfl); (focus exact rfl)) | ((with_reducible apply r_split); (focus exact rfl); (focus exact rfl))))
  ((with_reducible first | apply q_retR | apply q_retN); (focus exact rl))
  rfl
theorem bisSmall_A (f : Fr) (h : LowF f) : AC Try.prog 33 [F2 f] (B true) := by
  obtain ⟨h1, h2, h3, _⟩ := h
  have w1 := bwithin_A f.1 (-1000000000) 1000000000
  have w2 := bwithin_A f.2 1 1000000000
  rw [inR_true.2 (by omega)] at w1 w2
  refine ac_body Try.func33 rfl (by kernel_rfl) fun w0 ok => ?_; show AWp _ (ctx0 w0 ok _) _ (ARet _ _ _) (entry _)
  (repeat' (first | (with_reducible first | intro hg | refine awp_seq ?_ | refine q_seq ?_ | refine q_blk ?_ | refine awp_block ?_ | refine awp_skip ?_ | refine awp_ret ?_ | refine awp_exit ?_ | refine q_seqE ?_ | refine q_seqR ?_ | refine q_blkR ?_ | refine q_blkE ?_) | ((with_reducible refine awp_region ?_ ?_); (focus exact kr)) | ((with_reducible refine awp_region_any mixed ?_ ?_); (focus exact kr)) | ((with_reducible apply awp_condT); (focus exact rfl); (focus exact tt)) | ((with_reducible apply awp_condF); (focus exact rfl); (focus exact ff)) | ((with_reducible apply awp_condD); (focus exact rfl)) | ((with_reducible apply awp_condN); (focus exact rfl)) | ((with_reducible apply awp_cond); (focus exact rfl)) | ((with_reducible refine q_blkX ?_ ?_); (focus exact rfl)) | ((with_reducible refine r_nil (And.intro ?_ ?_)); (focus exact kr)) | (with_reducible refine r_nil ?_) | ((with_reducible apply r_put); (focus (first | exact dp | exact oc rfl (w1) | exact oc rfl (w2)))) | ((with_reducible apply r_new); (focus exact dn)) | ((with_reducible apply r_app); (focus exact da)) | ((with_reducible apply r_set); (focus exact ds)) | ((with_reducible apply r_putY); (focus exact rfl); (focus exact rfl); (focus exact tf); (focus (first | exact dp | exact oc rfl (w1) | exact oc rfl (w2)))) | ((with_reducible apply r_newY); (focus exact rfl); (focus exact rfl); (focus exact tf); (focus exact dn)) | ((with_reducible apply r_noT); (focus exact rfl); (focus exact rfl); (focus exact ff)) | ((with_reducible apply r_noF); (focus exact rfl); (focus exact rfl); (focus exact tt)) | ((with_reducible apply r_noU); (focus exact rfl); (focus exact rfl)) | ((with_reducible apply r_splitD); (focus exact rfl); (focus exact rfl)) | ((with_reducible apply r_split); (focus exact rfl); (focus exact rfl))))
  ((with_reducible first | apply q_retR | apply q_retN); (focus exact rl))
  rfl
theorem lsmall_A (f : Fr) (h : LowF f) : AC Try.prog 63 [F2 f] (B true) := by
  refine ac_body Try.func63 rfl (by kernel_rfl) fun w0 ok => ?_; show AWp _ (ctx0 w0 ok _) _ (ARet _ _ _) (entry _)
  (repeat' (first | (with_reducible first | intro hg | refine awp_seq ?_ | refine q_seq ?_ | refine q_blk ?_ | refine awp_block ?_ | refine awp_skip ?_ | refine awp_ret ?_ | refine awp_exit ?_ | refine q_seqE ?_ | refine q_seqR ?_ | refine q_blkR ?_ | refine q_blkE ?_) | ((with_reducible refine awp_region ?_ ?_); (focus exact kr)) | ((with_reducible refine awp_region_any mixed ?_ ?_); (focus exact kr)) | ((with_reducible apply awp_condT); (focus exact rfl); (focus exact tt)) | ((with_reducible apply awp_condF); (focus exact rfl); (focus exact ff)) | ((with_reducible apply awp_condD); (focus exact rfl)) | ((with_reducible apply awp_condN); (focus exact rfl)) | ((with_reducible apply awp_cond); (focus exact rfl)) | ((with_reducible refine q_blkX ?_ ?_); (focus exact rfl)) | ((with_reducible refine r_nil (And.intro ?_ ?_)); (focus exact kr)) | (with_reducible refine r_nil ?_) | ((with_reducible apply r_put); (focus (first | exact dp | exact oc rfl (bisLowest_A f h) | exact oc rfl (bisSmall_A f h)))) | ((with_reducible apply r_new); (focus exact dn)) | ((with_reducible apply r_app); (focus exact da)) | ((with_reducible apply r_set); (focus exact ds)) | ((with_reducible apply r_putY); (focus exact rfl); (focus exact rfl); (focus exact tf); (focus (first | exact dp | exact oc rfl (bisLowest_A f h) | exact oc rfl (bisSmall_A f h)))) | ((with_reducible apply r_newY); (focus exact rfl); (focus exact rfl); (focus exact tf); (focus exact dn)) | ((with_reducible apply r_noT); (focus exact rfl); (focus exact rfl); (focus exact ff)) | ((with_reducible apply r_noF); (focus exact rfl); (focus exact rfl); (focus exact tt)) | ((with_reducible apply r_noU); (focus exact rfl); (focus exact rfl)) | ((with_reducible apply r_splitD); (focus exact rfl); (focus exact rfl)) | ((with_reducible apply r_split); (focus exact rfl); (focus exact rfl))))
  ((with_reducible first | apply q_retR | apply q_retN); (focus exact rl))
  rfl
theorem cmp_le {a b : Fr} (ha : SmF a) (hb : SmF b) (h : fLe a b) : ∃ u, u ≤ 0 ∧ AC Try.prog 75 [F2 a, F2 b] (I u) := ⟨cmpF a b, by
  refine Int.not_lt.1 fun h2 => ?_
  have := of_decide_eq_true (cmpF_gt.1 h2)
  unfold fLe at h
  omega, bcmp_A a b (ha.mul hb) (hb.mul ha)⟩
theorem cmp_ge {a b : Fr} (ha : SmF a) (hb : SmF b) (h : fLe b a) : ∃ u, 0 ≤ u ∧ AC Try.prog 75 [F2 a, F2 b] (I u) := ⟨cmpF a b, by
  refine Int.not_lt.1 fun h2 => ?_
  have := of_decide_eq_true (cmpF_lt.1 h2)
  unfold fLe at h
  omega, bcmp_A a b (ha.mul hb) (hb.mul ha)⟩
theorem exF_low {m q g e : Int} (hm : 1 ≤ m ∧ m ≤ 1000) (hq : 0 ≤ q ∧ q ≤ 1000) (hg : 0 ≤ g ∧ g ≤ 100000) (he : 0 ≤ e ∧ e ≤ 100000) : LowF (exF m q g e) := by
  obtain ⟨h1, h2, h3⟩ := exF_sm hm hq hg he
  exact ⟨h1, h2, h3, low_gcd (by omega)⟩
theorem gpF_low {m q en ex : Int} (hm : 1 ≤ m ∧ m ≤ 1000) (hq : 0 ≤ q ∧ q ≤ 1000) (hx : 1 ≤ ex ∧ ex ≤ en) (he : en ≤ 100000) : LowF (gpF m q en ex) := by
  obtain ⟨h1, h2, h3⟩ := gpF_sm hm hq hx he
  exact ⟨h1, h2, h3, low_gcd (by omega)⟩
/-- What lies between the corners of two ranges, if it grows or shrinks in each. -/
theorem mono2 {f : Int → Int → Fr} {ml mh pl ph m q : Int} (hp : ∀ a b, ml ≤ a → a ≤ mh → pl ≤ b → b ≤ ph → 0 < (f a b).2)
    (h1 : ml ≤ m ∧ m ≤ mh) (h2 : pl ≤ q ∧ q ≤ ph)
    (hf : (∀ a b c d, ml ≤ a → a ≤ c → c ≤ mh → pl ≤ b → b ≤ d → d ≤ ph → fLe (f c b) (f a d)) ∨ (∀ a b c d, ml ≤ a → a ≤ c → c ≤ mh → pl ≤ b → b ≤ d → d ≤ ph → fLe (f a d) (f c b))) :
    fLe (hull4 (f ml pl) (f ml ph) (f mh pl) (f mh ph)).1 (f m q) ∧ fLe (f m q) (hull4 (f ml pl) (f ml ph) (f mh pl) (f mh ph)).2 := by
  have p1 := hp ml pl (by omega) (by omega) (by omega) (by omega)
  have p2 := hp ml ph (by omega) (by omega) (by omega) (by omega)
  have p3 := hp mh pl (by omega) (by omega) (by omega) (by omega)
  have p4 := hp mh ph (by omega) (by omega) (by omega) (by omega)
  have p0 := hp m q (by omega) (by omega) (by omega) (by omega)
  obtain ⟨⟨_, l2, l3, _⟩, _, u2, u3, _⟩ := hull4_le p1 p2 p3 p4
  obtain ⟨k1, k2⟩ := hull4_P (P := fun f => 0 < f.2) p1 p2 p3 p4
  rcases hf with hf | hf
  · have h3 := hf m pl mh q (by omega) (by omega) (by omega) (by omega) (by omega) (by omega)
    have h4 := hf ml q m ph (by omega) (by omega) (by omega) (by omega) (by omega) (by omega)
    exact ⟨fLe_trans k1 p3 p0 l3 h3, fLe_trans p0 p2 k2 h4 u2⟩
  · have h3 := hf m pl mh q (by omega) (by omega) (by omega) (by omega) (by omega) (by omega)
    have h4 := hf ml q m ph (by omega) (by omega) (by omega) (by omega) (by omega) (by omega)
    exact ⟨fLe_trans k1 p2 p0 l2 h4, fLe_trans p0 p3 k2 h3 u3⟩
/-- The greater the modulus and the less the stiffness, the nearer the exit lies to the gap. -/
theorem exSp_le {s : Std} {g e m q : Int} (hs : stE s = 0) (h1 : s.ml ≤ m ∧ m ≤ s.mh) (h2 : s.pl ≤ q ∧ q ≤ s.ph) : fLe (exSp s g e).1 (exF m q g e) ∧ fLe (exF m q g e) (exSp s g e).2 := by
  obtain ⟨⟨k1, k2, k3, k4⟩, _⟩ := stE_ok hs
  have key : ∀ a b c d, s.ml ≤ a → a ≤ c → c ≤ s.mh → s.pl ≤ b → b ≤ d → d ≤ s.ph → 0 ≤ c * d - a * b := fun a b c d j1 j2 j3 j4 j5 j6 => by
    have := Int.mul_le_mul j2 j5 (by omega) (by omega)
    omega
  refine mono2 (f := fun m q => exF m q g e) (fun a b _ _ _ _ => (low_size (n := a * g + b * e) (d := a + b) (by omega)).2.1) h1 h2 ?_
  by_cases hge : e ≤ g
  · refine .inr fun a b c d j1 j2 j3 j4 j5 j6 => exF_le (by omega) (by omega) (Int.mul_nonneg (by omega) ?_)
    exact key a b c d j1 j2 j3 j4 j5 j6
  · refine .inl fun a b c d j1 j2 j3 j4 j5 j6 => exF_le (by omega) (by omega) (Int.mul_nonneg_of_nonpos_of_nonpos (by omega) ?_)
    have := key a b c d j1 j2 j3 j4 j5 j6
    omega
theorem gpSp_le {s : Std} {en ex m q : Int} (hs : stE s = 0) (hx : ex ≤ en) (h1 : s.ml ≤ m ∧ m ≤ s.mh) (h2 : s.pl ≤ q ∧ q ≤ s.ph) : fLe (gpSp s en ex).1 (gpF m q en ex) ∧ fLe (gpF m q en ex) (gpSp s en ex).2 := by
  obtain ⟨⟨k1, k2, k3, k4⟩, _⟩ := stE_ok hs
  refine mono2 (f := fun m q => gpF m q en ex) (fun a b _ _ _ _ => (low_size (n := ex * a - b * (en - ex)) (d := a) (by omega)).2.1) h1 h2 ?_
  refine .inr fun a b c d j1 j2 j3 j4 j5 j6 => gpF_le (by omega) (by omega) (Int.mul_nonneg (by omega) ?_)
  have := Int.mul_le_mul j5 j2 (by omega) (by omega)
  omega
/-- The exit lies between the gap and the entry. -/
theorem exF_between {m q g e : Int} (hm : 0 < m) (hq : 0 ≤ q) : fLe (min g e, 1) (exF m q g e) ∧ fLe (exF m q g e) (max g e, 1) := by
  have e1 : ((min g e, 1) : Fr) = low (min g e * 1) 1 := (low_one _ (by decide)).symm
  have e2 : ((max g e, 1) : Fr) = low (max g e * 1) 1 := (low_one _ (by decide)).symm
  rw [e1, e2]
  have l1 : min g e * m ≤ g * m := Int.mul_le_mul_of_nonneg_right (by omega) (by omega)
  have l2 : min g e * q ≤ e * q := Int.mul_le_mul_of_nonneg_right (by omega) hq
  have l3 : g * m ≤ max g e * m := Int.mul_le_mul_of_nonneg_right (by omega) (by omega)
  have l4 : e * q ≤ max g e * q := Int.mul_le_mul_of_nonneg_right (by omega) hq
  have c1 := Int.mul_comm g m
  have c2 := Int.mul_comm e q
  constructor
  · refine (low_fLe (by decide) (by omega)).2 ?_
    rw [Int.mul_one, Int.mul_one, Int.mul_add]; omega
  · refine (low_fLe (by omega) (by decide)).2 ?_
    rw [Int.mul_one, Int.mul_one, Int.mul_add]; omega
/-- The gap for an exit thickness gives it. -/
theorem back_exF {m q en ex p : Int} (hm : 0 < m) (hq : 0 ≤ q) (h : gpF m q en ex = (p, 1)) : exF m q p en = (ex, 1) := by
  obtain ⟨g1, g2, g3⟩ := low_mul (n := ex * m - q * (en - ex)) hm
  have h1 : (low (ex * m - q * (en - ex)) m).1 = p := congrArg Prod.fst h
  have h2 : (low (ex * m - q * (en - ex)) m).2 = 1 := congrArg Prod.snd h
  rw [h1] at g2
  rw [h2, Int.mul_one] at g3
  rw [← g3] at g2
  unfold exF
  have e : m * p + q * en = ex * (m + q) := by
    rw [← g2, Int.mul_add, Int.mul_sub, Int.mul_comm ex q]; omega
  rw [e]
  exact low_one _ (by omega)

end Go.Proofs.Ytniilkoggpghdaa
