/- TopRollLinear: the plain laws, and the walks of ratios that it compares. -/
import Derived.Test.YtemihhkbieplmaaGa
import Derived.Test.YtemihhkbieplmaaVg
set_option linter.unusedVariables false
set_option linter.unusedSimpArgs false
namespace Go.Proofs.Ytemihhkbieplmaa
open Go.RowKit
set_option maxRecDepth 20000
set_option maxHeartbeats 4000000

theorem lst_take2 (f : Nat → Int) {c n : Nat} (h : c ≤ n) : (lst f n).take c = lst f c := by
  unfold lst; rw [← List.map_take, List.take_range, Nat.min_eq_left h]
theorem sq_add {p o q : Int} (f g : Nat → Int) : ∀ n, sq p o q (lst (fun k => f k + g k) n) 0 = sq p o q (lst f n) 0 + sq p o q (lst g n) 0
  | 0 => rfl
  | n + 1 => by
    rw [lst_succ, lst_succ, lst_succ, sq_snoc, sq_snoc, sq_snoc, sq_add f g n, lst_length, lst_length, lst_length]
    split <;> omega
theorem rsum_add {p o q : Int} (f g : Nat → Int) (n : Nat) : rsum p o (lst (fun k => f k + g k) n) 0 q = rsum p o (lst f n) 0 q + rsum p o (lst g n) 0 q := by
  have hle : cnt n p ≤ n := Nat.div_mul_le_self _ _
  unfold rsum
  rw [lst_length, lst_length, lst_length, lst_take2 _ hle, lst_take2 _ hle, lst_take2 _ hle, sq_add]
/-- The sum of two records. -/
def bothL (xs ys : List Int) : List Int := lst (fun k => nth xs k + nth ys k) xs.length
theorem both_len (xs ys : List Int) : (bothL xs ys).length = xs.length := lst_length _ _
theorem both_re {xs ys : List Int} (h : xs.length = ys.length) (p o : Int) : reOf p o (bothL xs ys) = reOf p o xs + reOf p o ys ∧ imOf p o (bothL xs ys) = imOf p o xs + imOf p o ys := by
  have e (q : Int) : rsum p o (bothL xs ys) 0 q = rsum p o xs 0 q + rsum p o ys 0 q := by
    have h1 := rsum_add (p := p) (o := o) (q := q) (nth xs) (nth ys) xs.length
    rw [lst_of, h, lst_of, ← h] at h1
    exact h1
  unfold reOf imOf
  rw [e, e, e, e]
  omega
theorem dif_both {xs ys : List Int} (h : xs.length = ys.length) (d : Nat) : dif (bothL xs ys) d = bothL (dif xs d) (dif ys d) := by
  unfold dif
  rw [both_len]
  unfold bothL
  rw [lst_length]
  unfold lst
  refine List.map_congr_left fun k hk => ?_
  rw [List.mem_range] at hk
  have e1 : nth (lst (fun k => nth xs k + nth ys k) xs.length) k = nth xs k + nth ys k := lst_nth _ (by omega)
  have e2 : nth (lst (fun k => nth xs k + nth ys k) xs.length) (k + d) = nth xs (k + d) + nth ys (k + d) := lst_nth _ (by omega)
  have e3 : nth (lst (fun k => nth xs k - nth xs (k + d)) (xs.length - d)) k = nth xs k - nth xs (k + d) := lst_nth _ hk
  have e4 : nth (lst (fun k => nth ys k - nth ys (k + d)) (ys.length - d)) k = nth ys k - nth ys (k + d) := lst_nth _ (by omega)
  show nth (lst (fun k => nth xs k + nth ys k) xs.length) k - nth (lst (fun k => nth xs k + nth ys k) xs.length) (k + d) = nth (lst (fun k => nth xs k - nth xs (k + d)) (xs.length - d)) k + nth (lst (fun k => nth ys k - nth ys (k + d)) (ys.length - d)) k
  rw [e1, e2, e3, e4]
  omega
/-- The steady amplitudes' parts: numbers over one count. -/
theorem both_steady {xs ys : List Int} (h : xs.length = ys.length) (p o : Int) (d : Nat) : reOf p o (dif (bothL xs ys) d) = reOf p o (dif xs d) + reOf p o (dif ys d) ∧ imOf p o (dif (bothL xs ys) d) = imOf p o (dif xs d) + imOf p o (dif ys d) := by
  rw [dif_both h]
  exact both_re (by rw [dif_len, dif_len, h]) p o

theorem low_pos {n b : Int} (hb : 0 < b) : 0 < (low n b).2 ∧ (low n b).2 ≤ b ∧ (low n b).1.natAbs ≤ n.natAbs ∧ Int.gcd (low n b).1 (low n b).2 = 1 ∧ Rat.divInt (low n b).1 (low n b).2 = Rat.divInt n b := by
  have hg0 : 0 < Int.gcd n b := Int.gcd_pos_of_ne_zero_right _ (by omega)
  have hg : 0 < ((Int.gcd n b : Nat) : Int) := by omega
  have d1 : n.tdiv (Int.gcd n b : Nat) * ((Int.gcd n b : Nat) : Int) = n := Int.tdiv_mul_cancel (Int.gcd_dvd_left _ _)
  have d2 : b / ((Int.gcd n b : Nat) : Int) * ((Int.gcd n b : Nat) : Int) = b := Int.ediv_mul_cancel (Int.gcd_dvd_right _ _)
  have e1 : n.tdiv ((Int.gcd n b : Nat) : Int) = n / ((Int.gcd n b : Nat) : Int) := by
    rw [Int.tdiv_eq_ediv_of_dvd (Int.gcd_dvd_left _ _)]
  have hy : 0 < b / ((Int.gcd n b : Nat) : Int) := Int.ediv_pos_of_pos_of_dvd hb (Int.le_of_lt hg) (Int.gcd_dvd_right _ _)
  refine ⟨hy, Int.ediv_le_self _ (by omega), Int.natAbs_tdiv_le_natAbs _ _, ?_, ?_⟩
  · show Int.gcd (n.tdiv (Int.gcd n b)) (b / (Int.gcd n b)) = 1
    rw [e1, Int.gcd_ediv_gcd_ediv_gcd hg0]
  · show Rat.divInt (n.tdiv (Int.gcd n b)) (b / (Int.gcd n b)) = Rat.divInt n b
    have := Rat.divInt_mul_right (n := n.tdiv ((Int.gcd n b : Nat) : Int)) (d := b / ((Int.gcd n b : Nat) : Int)) (a := ((Int.gcd n b : Nat) : Int)) (by omega)
    rw [d1, d2] at this
    exact this.symm
theorem divInt_add_same {a b n : Int} (hn : n ≠ 0) : Rat.divInt a n + Rat.divInt b n = Rat.divInt (a + b) n := by
  rw [Rat.divInt_add_divInt _ _ hn hn, ← Int.add_mul, Rat.divInt_mul_right hn]

/-- The sums by quarters as sums of products with the waves. -/
theorem sq_wave {p o : Int} (hp : Drum p o) (f : Nat → Int) : ∀ n, sq p o 0 (lst f n) 0 - sq p o 2 (lst f n) 0 = sumTo (fun k => f k * wave p o 1 0 (k : Nat)) n ∧ sq p o 3 (lst f n) 0 - sq p o 1 (lst f n) 0 = sumTo (fun k => f k * wave p o 0 1 (k : Nat)) n
  | 0 => ⟨rfl, rfl⟩
  | n + 1 => by
    obtain ⟨h1, h2⟩ := sq_wave hp f n
    have hq := qtr_lt (p := p) (o := o) (k := (n : Int)) hp.1
    have e : (0 : Int) + ((lst f n).length : Nat) = (n : Int) := by rw [lst_length]; omega
    unfold sumTo
    rw [lst_succ, sq_snoc, sq_snoc, sq_snoc, sq_snoc, ← h1, ← h2, e]
    show _ = _ + f n * waveQ (qtr p o n) 1 0 ∧ _ = _ + f n * waveQ (qtr p o n) 0 1
    rcases (show qtr p o n = 0 ∨ qtr p o n = 1 ∨ qtr p o n = 2 ∨ qtr p o n = 3 by omega) with h | h | h | h <;> rw [h] <;> simp [waveQ] <;> omega
theorem cnt_whole {n : Nat} {p : Int} (h : (n : Int) % p = 0) (hp : 0 < p) : cnt n p = n := by
  unfold cnt
  refine Nat.div_mul_cancel ?_
  obtain ⟨c, hc⟩ := Int.dvd_of_emod_eq_zero h
  obtain ⟨P, rfl⟩ := Int.eq_ofNat_of_zero_le (show 0 ≤ p by omega)
  rw [Int.toNat_natCast]
  exact Int.natCast_dvd_natCast.1 ⟨c, hc⟩
theorem re_whole {p o : Int} (hp : Drum p o) (f : Nat → Int) {n : Nat} (h : (n : Int) % p = 0) : reOf p o (lst f n) = sumTo (fun k => f k * wave p o 1 0 (k : Nat)) n ∧ imOf p o (lst f n) = sumTo (fun k => f k * wave p o 0 1 (k : Nat)) n := by
  have hc := cnt_whole h (by have := hp.1; omega)
  obtain ⟨h1, h2⟩ := sq_wave hp f n
  unfold reOf imOf rsum
  rw [lst_length, hc, List.take_of_length_le (by rw [lst_length]; exact Nat.le_refl _)]
  exact ⟨h1, h2⟩
/-- A fit with whole parts leaves no sum. -/
theorem fit_leaves {p0 o0 p1 o1 : Int} {xs : List Int} {F0 F1 F2 F3 : Int} (h0 : Drum p0 o0) (h1 : Drum p1 o1) (hz : fitDen (eqM (fun k i => W4 p0 o0 p1 o1 k i) xs.length) ≠ 0)
    (hD : fitD (eqM (fun k i => W4 p0 o0 p1 o1 k i) xs.length) (eqR (fun k i => W4 p0 o0 p1 o1 k i) xs xs.length) = 1)
    (f0 : F0 = fitQ (eqM (fun k i => W4 p0 o0 p1 o1 k i) xs.length) (eqR (fun k i => W4 p0 o0 p1 o1 k i) xs xs.length) 0) (f1 : F1 = fitQ (eqM (fun k i => W4 p0 o0 p1 o1 k i) xs.length) (eqR (fun k i => W4 p0 o0 p1 o1 k i) xs xs.length) 1)
    (f2 : F2 = fitQ (eqM (fun k i => W4 p0 o0 p1 o1 k i) xs.length) (eqR (fun k i => W4 p0 o0 p1 o1 k i) xs xs.length) 2) (f3 : F3 = fitQ (eqM (fun k i => W4 p0 o0 p1 o1 k i) xs.length) (eqR (fun k i => W4 p0 o0 p1 o1 k i) xs xs.length) 3)
    (hw0 : (xs.length : Int) % p0 = 0) (hw1 : (xs.length : Int) % p1 = 0) {L2 : List Int} (hL : L2 = lst (fun k => nth xs k - wave p0 o0 F0 F1 (k : Nat) - wave p1 o1 F2 F3 (k : Nat)) xs.length) :
    (reOf p0 o0 L2 = 0 ∧ imOf p0 o0 L2 = 0) ∧ (reOf p1 o1 L2 = 0 ∧ imOf p1 o1 L2 = 0) := by
  have key : ∀ i, i < 4 → sumTo (fun k => (nth xs k - wave p0 o0 F0 F1 (k : Nat) - wave p1 o1 F2 F3 (k : Nat)) * W4 p0 o0 p1 o1 (k : Nat) i) xs.length = 0 := fun i hi => by
    have hn := fit_normal (eqM (fun k i => W4 p0 o0 p1 o1 k i) xs.length) (eqR (fun k i => W4 p0 o0 p1 o1 k i) xs xs.length) hz i hi
    rw [← f0, ← f1, ← f2, ← f3, hD, Int.one_mul] at hn
    have ho := ortho (fun k i => W4 p0 o0 p1 o1 (k : Nat) i) (nth xs) 1 F0 F1 F2 F3 i xs.length
    have e1 : sumTo (fun k => W4 p0 o0 p1 o1 (k : Nat) i * nth xs k) xs.length = eqR (fun k i => W4 p0 o0 p1 o1 k i) xs xs.length i := by
      unfold eqR
      apply sumTo_congr
      intro k _
      unfold nth
      rw [List.getD_eq_getElem?_getD]
    rw [e1, ← hn] at ho
    refine Eq.trans (sumTo_congr _ fun k _ => ?_) (ho.trans ?_)
    · have l1 := wave_lin p0 o0 F0 F1 (k : Int)
      have l2 := wave_lin p1 o1 F2 F3 (k : Int)
      show (nth xs k - wave p0 o0 F0 F1 (k : Nat) - wave p1 o1 F2 F3 (k : Nat)) * W4 p0 o0 p1 o1 (k : Nat) i = (1 * nth xs k - (F0 * wave p0 o0 1 0 (k : Nat) + F1 * wave p0 o0 0 1 (k : Nat) + F2 * wave p1 o1 1 0 (k : Nat) + F3 * wave p1 o1 0 1 (k : Nat))) * W4 p0 o0 p1 o1 (k : Nat) i
      rw [l1, l2]
      congr 1
      omega
    · show 1 * (eqM (fun k i => W4 p0 o0 p1 o1 k i) xs.length i 0 * F0 + eqM (fun k i => W4 p0 o0 p1 o1 k i) xs.length i 1 * F1 + eqM (fun k i => W4 p0 o0 p1 o1 k i) xs.length i 2 * F2 + eqM (fun k i => W4 p0 o0 p1 o1 k i) xs.length i 3 * F3) - (eqM (fun k i => W4 p0 o0 p1 o1 k i) xs.length i 0 * F0 + eqM (fun k i => W4 p0 o0 p1 o1 k i) xs.length i 1 * F1 + eqM (fun k i => W4 p0 o0 p1 o1 k i) xs.length i 2 * F2 + eqM (fun k i => W4 p0 o0 p1 o1 k i) xs.length i 3 * F3) = 0
      omega
  have a := re_whole h0 (fun k => nth xs k - wave p0 o0 F0 F1 (k : Nat) - wave p1 o1 F2 F3 (k : Nat)) hw0
  have b := re_whole h1 (fun k => nth xs k - wave p0 o0 F0 F1 (k : Nat) - wave p1 o1 F2 F3 (k : Nat)) hw1
  rw [hL]
  exact ⟨⟨a.1.trans (key 0 (by omega)), a.2.trans (key 1 (by omega))⟩, b.1.trans (key 2 (by omega)), b.2.trans (key 3 (by omega))⟩

theorem ratioCmp_same (p : Rat) (hp : RatS 10000 p) : AC Try.prog 83 [ratV p, ratV p] (I 0) := by
  obtain ⟨a, b⟩ := hp
  have a1 := wideMul_A p.num (p.den : Int) (by omega) (by omega)
  have h1 := wlen_mul p.num (p.den : Int)
  have a2 := wideCmp_A (p.num * (p.den : Int)) (p.num * (p.den : Int)) (by omega) (by omega)
  rw [Int.sub_self] at a2
  have e : (0 : Int).sign = 0 := rfl
  rw [e] at a2
  clear a b h1
  refine ac_body Try.func83 rfl (by kernel_rfl) fun w0 ok => ?_; show AWp _ (ctx0 w0 ok _) _ (ARet _ _ _) (entry _)
  (repeat' (first | (with_reducible first | intro hg | refine awp_seq ?_ | refine q_seq ?_ | refine q_blk ?_ | refine awp_block ?_ | refine awp_skip ?_ | refine awp_ret ?_ | refine awp_exit ?_ | refine q_seqE ?_ | refine q_seqR ?_ | refine q_blkR ?_ | refine q_blkE ?_) | ((with_reducible refine awp_region ?_ ?_); (focus exact kr)) | ((with_reducible refine awp_region_any mixed ?_ ?_); (focus exact kr)) | ((with_reducible apply awp_condT); (focus exact rfl); (focus exact tt)) | ((with_reducible apply awp_condF); (focus exact rfl); (focus exact ff)) | ((with_reducible apply awp_condD); (focus exact rfl)) | ((with_reducible apply awp_condN); (focus exact rfl)) | ((with_reducible apply awp_cond); (focus exact rfl)) | ((with_reducible refine q_blkX ?_ ?_); (focus exact rfl)) | ((with_reducible refine r_nil (And.intro ?_ ?_)); (focus exact kr)) | (with_reducible refine r_nil ?_) | ((with_reducible apply r_put); (focus (first | exact dp | exact oc rfl (a1) | exact oc rfl (a2)))) | ((with_reducible apply r_new); (focus exact dn)) | ((with_reducible apply r_app); (focus exact da)) | ((with_reducible apply r_set); (focus exact ds)) | ((with_reducible apply r_putY); (focus exact rfl); (focus exact rfl); (focus exact tf); (focus (first | exact dp | exact oc rfl (a1) | exact oc rfl (a2)))) | ((with_reducible apply r_newY); (focus exact rfl); (focus exact rfl); (focus exact tf); (focus exact dn)) | ((with_reducible apply r_noT); (focus exact rfl); (focus exact rfl); (focus exact ff)) | ((with_reducible apply r_noF); (focus exact rfl); (focus exact rfl); (focus exact tt)) | ((with_reducible apply r_noU); (focus exact rfl); (focus exact rfl)) | ((with_reducible apply r_splitD); (focus exact rfl); (focus exact rfl)) | ((with_reducible apply r_split); (focus exact rfl); (focus exact rfl))))
  ((with_reducible first | apply q_retR | apply q_retN); (focus exact rl))
  rfl
theorem isLowest_A (f : Int × Int) (h0 : 0 < f.2) (h1 : f.2 ≤ 1000000000000) (h2 : f.1.natAbs ≤ 1000000000000) (hg : Int.gcd f.1 f.2 = 1) : AC Try.prog 82 [F2 f] (B true) := by
  have a1 := gcd_A f.1 f.2 ⟨by omega, by omega⟩ ⟨by omega, by omega⟩
  rw [hg] at a1
  refine ac_body Try.func82 rfl (by kernel_rfl) fun w0 ok => ?_; show AWp _ (ctx0 w0 ok _) _ (ARet _ _ _) (entry _)
  (repeat' (first | (with_reducible first | intro hg | refine awp_seq ?_ | refine q_seq ?_ | refine q_blk ?_ | refine awp_block ?_ | refine awp_skip ?_ | refine awp_ret ?_ | refine awp_exit ?_ | refine q_seqE ?_ | refine q_seqR ?_ | refine q_blkR ?_ | refine q_blkE ?_) | ((with_reducible refine awp_region ?_ ?_); (focus exact kr)) | ((with_reducible refine awp_region_any mixed ?_ ?_); (focus exact kr)) | ((with_reducible apply awp_condT); (focus exact rfl); (focus exact tt)) | ((with_reducible apply awp_condF); (focus exact rfl); (focus exact ff)) | ((with_reducible apply awp_condD); (focus exact rfl)) | ((with_reducible apply awp_condN); (focus exact rfl)) | ((with_reducible apply awp_cond); (focus exact rfl)) | ((with_reducible refine q_blkX ?_ ?_); (focus exact rfl)) | ((with_reducible refine r_nil (And.intro ?_ ?_)); (focus exact kr)) | (with_reducible refine r_nil ?_) | ((with_reducible apply r_put); (focus (first | exact dp | exact oc rfl (a1)))) | ((with_reducible apply r_new); (focus exact dn)) | ((with_reducible apply r_app); (focus exact da)) | ((with_reducible apply r_set); (focus exact ds)) | ((with_reducible apply r_putY); (focus exact rfl); (focus exact rfl); (focus exact tf); (focus (first | exact dp | exact oc rfl (a1)))) | ((with_reducible apply r_newY); (focus exact rfl); (focus exact rfl); (focus exact tf); (focus exact dn)) | ((with_reducible apply r_noT); (focus exact rfl); (focus exact rfl); (focus exact ff)) | ((with_reducible apply r_noF); (focus exact rfl); (focus exact rfl); (focus exact tt)) | ((with_reducible apply r_noU); (focus exact rfl); (focus exact rfl)) | ((with_reducible apply r_splitD); (focus exact rfl); (focus exact rfl)) | ((with_reducible apply r_split); (focus exact rfl); (focus exact rfl))))
  ((with_reducible first | apply q_retR | apply q_retN); (focus exact rl))
  rfl

end Go.Proofs.Ytemihhkbieplmaa
