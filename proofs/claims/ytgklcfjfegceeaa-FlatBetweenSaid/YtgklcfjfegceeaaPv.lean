/- The law FlatBetween: what it answers. -/
import Derived.Test.YtgklcfjfegceeaaPu
set_option linter.unusedVariables false
set_option linter.unusedSimpArgs false
namespace Go.Proofs.Ytgklcfjfegceeaa
open Go.RowKit
set_option maxRecDepth 20000
set_option maxHeartbeats 8000000

theorem heatN_add (a c b : Int) (t : List Int) (x : Nat) : ∀ y, heatN a c b t (x + y) = heatN a c b (heatN a c b t x) y
  | 0 => rfl
  | y + 1 => congrArg (heat1 a c b) (heatN_add a c b t x y)
theorem heat1_len (a c b : Int) (t : List Int) : (heat1 a c b t).length = t.length := by simp [heat1, lst]
theorem heatN_len (a c b : Int) (t : List Int) : ∀ k, (heatN a c b t k).length = t.length
  | 0 => rfl
  | k + 1 => (heat1_len a c b _).trans (heatN_len a c b t k)
/-- A neighbour's temperature; beyond the ends the own one. -/
def yv (t : List Int) (n k : Int) : Int := bif inR k 0 ((t.length : Int) - 1) then nth t k.toNat else n
theorem nbr_yv (t : List Int) (n b k : Int) : nbr t n b k = (yv t n k - n) * b := by
  unfold nbr yv
  cases inR k 0 ((t.length : Int) - 1)
  · show 0 = (n - n) * b; simp
  · rfl
theorem yv_mem {t : List Int} {n k : Int} {p : Int → Prop} (h : ∀ i, i < t.length → p (nth t i)) (hn : p n) : p (yv t n k) := by
  unfold yv
  cases hq : inR k 0 ((t.length : Int) - 1)
  · exact hn
  · obtain ⟨h1, h2⟩ := inR_iff.1 hq
    exact h _ (by omega)
theorem stp_eq (t : List Int) (a c b : Int) (i : Nat) : stp t a c b i = (a * c + yv t (nth t i) ((i : Int) - 1) * b + yv t (nth t i) ((i : Int) + 1) * b + nth t i * (1000 - c - 2 * b)) / 1000 := by
  unfold stp
  rw [nbr_yv, nbr_yv]
  generalize yv t (nth t i) ((i : Int) - 1) = l
  generalize yv t (nth t i) ((i : Int) + 1) = r
  generalize nth t i = n
  have e : a * c + l * b + r * b + n * (1000 - c - 2 * b) = (a - n) * c + (l - n) * b + (r - n) * b + 1000 * n := by grind
  rw [e]
  omega
theorem stp_mono {t u : List Int} {a c b : Int} (hc : 0 ≤ c) (hb : 0 ≤ b) (hs : c + 2 * b ≤ 1000) (hl : t.length = u.length) (h : ∀ i, i < t.length → nth t i ≤ nth u i) {i : Nat} (hi : i < t.length) : stp t a c b i ≤ stp u a c b i := by
  have hy : ∀ k, yv t (nth t i) k ≤ yv u (nth u i) k := fun k => by
    unfold yv
    rw [← hl]
    cases hq : inR k 0 ((t.length : Int) - 1)
    · exact h i hi
    · obtain ⟨h1, h2⟩ := inR_iff.1 hq
      exact h _ (by omega)
  rw [stp_eq, stp_eq]
  have p1 := Int.mul_le_mul_of_nonneg_right (hy ((i : Int) - 1)) hb
  have p2 := Int.mul_le_mul_of_nonneg_right (hy ((i : Int) + 1)) hb
  have p3 := Int.mul_le_mul_of_nonneg_right (h i hi) (by omega : 0 ≤ 1000 - c - 2 * b)
  exact Int.ediv_le_ediv (by decide) (by omega)
theorem heat1_nth (a c b : Int) (t : List Int) {i : Nat} (hi : i < t.length) : nth (heat1 a c b t) i = stp t a c b i := lst_nth _ hi
theorem heatN_mono {a c b : Int} (hc : 0 ≤ c) (hb : 0 ≤ b) (hs : c + 2 * b ≤ 1000) {t u : List Int} (hl : t.length = u.length) (h : ∀ i, i < t.length → nth t i ≤ nth u i) : ∀ k i, i < t.length → nth (heatN a c b t k) i ≤ nth (heatN a c b u k) i
  | 0, i, hi => h i hi
  | k + 1, i, hi => by
    show nth (heat1 a c b (heatN a c b t k)) i ≤ nth (heat1 a c b (heatN a c b u k)) i
    have e1 := heatN_len a c b t k
    have e2 := heatN_len a c b u k
    rw [heat1_nth _ _ _ _ (by omega), heat1_nth _ _ _ _ (by omega)]
    exact stp_mono hc hb hs (by omega) (fun j hj => heatN_mono hc hb hs hl h k j (by omega)) (by omega)
theorem stp_in {t : List Int} {a c b lo hi : Int} (hc : 0 ≤ c) (hb : 0 ≤ b) (hs : c + 2 * b ≤ 1000) (ha : lo ≤ a ∧ a ≤ hi) (h : ∀ i, i < t.length → lo ≤ nth t i ∧ nth t i ≤ hi) {i : Nat} (hi' : i < t.length) : lo ≤ stp t a c b i ∧ stp t a c b i ≤ hi := by
  rw [stp_eq]
  obtain ⟨l1, l2⟩ := yv_mem (p := fun x => lo ≤ x ∧ x ≤ hi) (k := (i : Int) - 1) h (h i hi')
  obtain ⟨r1, r2⟩ := yv_mem (p := fun x => lo ≤ x ∧ x ≤ hi) (k := (i : Int) + 1) h (h i hi')
  obtain ⟨n1, n2⟩ := h i hi'
  obtain ⟨a1, a2⟩ := ha
  generalize yv t (nth t i) ((i : Int) - 1) = l at *
  generalize yv t (nth t i) ((i : Int) + 1) = r at *
  generalize nth t i = n at *
  have hd : 0 ≤ 1000 - c - 2 * b := by omega
  have p1 := Int.mul_le_mul_of_nonneg_right a1 hc
  have p2 := Int.mul_le_mul_of_nonneg_right l1 hb
  have p3 := Int.mul_le_mul_of_nonneg_right r1 hb
  have p4 := Int.mul_le_mul_of_nonneg_right n1 hd
  have q1 := Int.mul_le_mul_of_nonneg_right a2 hc
  have q2 := Int.mul_le_mul_of_nonneg_right l2 hb
  have q3 := Int.mul_le_mul_of_nonneg_right r2 hb
  have q4 := Int.mul_le_mul_of_nonneg_right n2 hd
  have e1 : lo * c + lo * b + lo * b + lo * (1000 - c - 2 * b) = lo * 1000 := by grind
  have e2 : hi * c + hi * b + hi * b + hi * (1000 - c - 2 * b) = hi * 1000 := by grind
  exact ⟨Int.le_ediv_of_mul_le (by decide) (by omega), Int.le_of_lt_add_one (Int.ediv_lt_of_lt_mul (by decide) (by omega))⟩
theorem heatN_in {a c b lo hi : Int} (hc : 0 ≤ c) (hb : 0 ≤ b) (hs : c + 2 * b ≤ 1000) (ha : lo ≤ a ∧ a ≤ hi) {t : List Int} (h : ∀ i, i < t.length → lo ≤ nth t i ∧ nth t i ≤ hi) : ∀ k i, i < t.length → lo ≤ nth (heatN a c b t k) i ∧ nth (heatN a c b t k) i ≤ hi
  | 0, i, hi' => h i hi'
  | k + 1, i, hi' => by
    have e1 := heatN_len a c b t k
    have e : nth (heatN a c b t (k + 1)) i = stp (heatN a c b t k) a c b i := heat1_nth _ _ _ _ (by omega)
    rw [e]
    exact stp_in hc hb hs ha (fun j hj => heatN_in hc hb hs ha h k j (by omega)) (by omega)

def loT (a : Int) (t : List Int) : Nat → Int
  | 0 => a
  | k + 1 => min (loT a t k) (nth t k)
def hiT (a : Int) (t : List Int) : Nat → Int
  | 0 => a
  | k + 1 => max (hiT a t k) (nth t k)
theorem loT_le (a : Int) (t : List Int) : ∀ k, loT a t k ≤ a ∧ ∀ i, i < k → loT a t k ≤ nth t i
  | 0 => ⟨Int.le_refl _, fun i h => absurd h (by omega)⟩
  | k + 1 => by
    obtain ⟨h1, h2⟩ := loT_le a t k
    unfold loT
    refine ⟨by omega, fun i hi => ?_⟩
    by_cases h : i < k
    · have := h2 i h; omega
    · rw [show i = k by omega]; omega
theorem le_hiT (a : Int) (t : List Int) : ∀ k, a ≤ hiT a t k ∧ ∀ i, i < k → nth t i ≤ hiT a t k
  | 0 => ⟨Int.le_refl _, fun i h => absurd h (by omega)⟩
  | k + 1 => by
    obtain ⟨h1, h2⟩ := le_hiT a t k
    unfold hiT
    refine ⟨by omega, fun i hi => ?_⟩
    by_cases h : i < k
    · have := h2 i h; omega
    · rw [show i = k by omega]; omega
def hotF (t : List Int) (x : Int) (k : Nat) : Int := min 100000 (nth t k + x * ((k : Int) % 2))
theorem hot_rng {x : Int} (h : 0 ≤ x ∧ x ≤ 1000) (k : Nat) : 0 ≤ x * ((k : Int) % 2) ∧ x * ((k : Int) % 2) ≤ 1000 := by
  rcases (by omega : (k : Int) % 2 = 0 ∨ (k : Int) % 2 = 1) with e | e <;> rw [e] <;> omega
theorem hot_ok {t : List Int} {a c b x : Int} (h : HeatOk t a c b) (hx : 0 ≤ x ∧ x ≤ 1000) : HeatOk (lst (hotF t x) t.length) a c b := by
  refine ⟨by rw [lst_length]; exact h.l2, by rw [lst_length]; exact h.l9, fun y hy => ?_, h.a, h.c, h.b⟩
  obtain ⟨i, hi, rfl⟩ := List.mem_map.1 hy
  have := h.tb _ (nth_mem (List.mem_range.1 hi))
  have := hot_rng hx i
  unfold hotF; omega
theorem flatBetween_A (t : List Int) (a c b x0 x1 x2 : Int) (hm : t.length ≤ 140737488355328) : AC Try.prog 5 [isl t, hcV a c b, .agg [I x0, I x1, I x2]] (B true) := by
  have aw := awake_A
  have hr := refHeatErr_A t a c b 0 hm
  by_cases he : heatE t a c b 0 = 0
  · rw [he] at hr
    have u0 := bwithin_A x0 0 100
    have u1 := bwithin_A x1 0 100
    have u2 := bwithin_A x2 0 1000
    cases i0 : inR x0 0 100
    · rw [i0] at u0
      refine ac_body Try.func5 rfl (by kernel_rfl) fun w0 ok => ?_; show AWp _ (ctx0 w0 ok _) _ (ARet _ _ _) (entry _)
      (repeat' (first | (with_reducible first | intro hg | refine awp_seq ?_ | refine q_seq ?_ | refine q_blk ?_ | refine awp_block ?_ | refine awp_skip ?_ | refine awp_ret ?_ | refine awp_exit ?_ | refine q_seqE ?_ | refine q_seqR ?_ | refine q_blkR ?_ | refine q_blkE ?_) | ((with_reducible refine awp_region ?_ ?_); (focus exact kr)) | ((with_reducible refine awp_region_any mixed ?_ ?_); (focus exact kr)) | ((with_reducible apply awp_condT); (focus exact rfl); (focus exact tt)) | ((with_reducible apply awp_condF); (focus exact rfl); (focus exact ff)) | ((with_reducible apply awp_condD); (focus exact rfl)) | ((with_reducible apply awp_condN); (focus exact rfl)) | ((with_reducible apply awp_cond); (focus exact rfl)) | ((with_reducible refine q_blkX ?_ ?_); (focus exact rfl)) | ((with_reducible refine r_nil (And.intro ?_ ?_)); (focus exact kr)) | (with_reducible refine r_nil ?_) | ((with_reducible apply r_put); (focus (first | exact dp | exact oc rfl (aw) | exact oc rfl (hr) | exact oc rfl (u0)))) | ((with_reducible apply r_new); (focus exact dn)) | ((with_reducible apply r_app); (focus exact da)) | ((with_reducible apply r_set); (focus exact ds)) | ((with_reducible apply r_putY); (focus exact rfl); (focus exact rfl); (focus exact tf); (focus (first | exact dp | exact oc rfl (aw) | exact oc rfl (hr) | exact oc rfl (u0)))) | ((with_reducible apply r_newY); (focus exact rfl); (focus exact rfl); (focus exact tf); (focus exact dn)) | ((with_reducible apply r_noT); (focus exact rfl); (focus exact rfl); (focus exact ff)) | ((with_reducible apply r_noF); (focus exact rfl); (focus exact rfl); (focus exact tt)) | ((with_reducible apply r_noU); (focus exact rfl); (focus exact rfl)) | ((with_reducible apply r_splitD); (focus exact rfl); (focus exact rfl)) | ((with_reducible apply r_split); (focus exact rfl); (focus exact rfl))))
      ((with_reducible first | apply q_retR | apply q_retN); (focus exact rl))
      rfl
    rw [i0] at u0
    cases i1 : inR x1 0 100
    · rw [i1] at u1
      refine ac_body Try.func5 rfl (by kernel_rfl) fun w0 ok => ?_; show AWp _ (ctx0 w0 ok _) _ (ARet _ _ _) (entry _)
      (repeat' (first | (with_reducible first | intro hg | refine awp_seq ?_ | refine q_seq ?_ | refine q_blk ?_ | refine awp_block ?_ | refine awp_skip ?_ | refine awp_ret ?_ | refine awp_exit ?_ | refine q_seqE ?_ | refine q_seqR ?_ | refine q_blkR ?_ | refine q_blkE ?_) | ((with_reducible refine awp_region ?_ ?_); (focus exact kr)) | ((with_reducible refine awp_region_any mixed ?_ ?_); (focus exact kr)) | ((with_reducible apply awp_condT); (focus exact rfl); (focus exact tt)) | ((with_reducible apply awp_condF); (focus exact rfl); (focus exact ff)) | ((with_reducible apply awp_condD); (focus exact rfl)) | ((with_reducible apply awp_condN); (focus exact rfl)) | ((with_reducible apply awp_cond); (focus exact rfl)) | ((with_reducible refine q_blkX ?_ ?_); (focus exact rfl)) | ((with_reducible refine r_nil (And.intro ?_ ?_)); (focus exact kr)) | (with_reducible refine r_nil ?_) | ((with_reducible apply r_put); (focus (first | exact dp | exact oc rfl (aw) | exact oc rfl (hr) | exact oc rfl (u0) | exact oc rfl (u1)))) | ((with_reducible apply r_new); (focus exact dn)) | ((with_reducible apply r_app); (focus exact da)) | ((with_reducible apply r_set); (focus exact ds)) | ((with_reducible apply r_putY); (focus exact rfl); (focus exact rfl); (focus exact tf); (focus (first | exact dp | exact oc rfl (aw) | exact oc rfl (hr) | exact oc rfl (u0) | exact oc rfl (u1)))) | ((with_reducible apply r_newY); (focus exact rfl); (focus exact rfl); (focus exact tf); (focus exact dn)) | ((with_reducible apply r_noT); (focus exact rfl); (focus exact rfl); (focus exact ff)) | ((with_reducible apply r_noF); (focus exact rfl); (focus exact rfl); (focus exact tt)) | ((with_reducible apply r_noU); (focus exact rfl); (focus exact rfl)) | ((with_reducible apply r_splitD); (focus exact rfl); (focus exact rfl)) | ((with_reducible apply r_split); (focus exact rfl); (focus exact rfl))))
      ((with_reducible first | apply q_retR | apply q_retN); (focus exact rl))
      rfl
    rw [i1] at u1
    cases i2 : inR x2 0 1000
    · rw [i2] at u2
      refine ac_body Try.func5 rfl (by kernel_rfl) fun w0 ok => ?_; show AWp _ (ctx0 w0 ok _) _ (ARet _ _ _) (entry _)
      (repeat' (first | (with_reducible first | intro hg | refine awp_seq ?_ | refine q_seq ?_ | refine q_blk ?_ | refine awp_block ?_ | refine awp_skip ?_ | refine awp_ret ?_ | refine awp_exit ?_ | refine q_seqE ?_ | refine q_seqR ?_ | refine q_blkR ?_ | refine q_blkE ?_) | ((with_reducible refine awp_region ?_ ?_); (focus exact kr)) | ((with_reducible refine awp_region_any mixed ?_ ?_); (focus exact kr)) | ((with_reducible apply awp_condT); (focus exact rfl); (focus exact tt)) | ((with_reducible apply awp_condF); (focus exact rfl); (focus exact ff)) | ((with_reducible apply awp_condD); (focus exact rfl)) | ((with_reducible apply awp_condN); (focus exact rfl)) | ((with_reducible apply awp_cond); (focus exact rfl)) | ((with_reducible refine q_blkX ?_ ?_); (focus exact rfl)) | ((with_reducible refine r_nil (And.intro ?_ ?_)); (focus exact kr)) | (with_reducible refine r_nil ?_) | ((with_reducible apply r_put); (focus (first | exact dp | exact oc rfl (aw) | exact oc rfl (hr) | exact oc rfl (u0) | exact oc rfl (u1) | exact oc rfl (u2)))) | ((with_reducible apply r_new); (focus exact dn)) | ((with_reducible apply r_app); (focus exact da)) | ((with_reducible apply r_set); (focus exact ds)) | ((with_reducible apply r_putY); (focus exact rfl); (focus exact rfl); (focus exact tf); (focus (first | exact dp | exact oc rfl (aw) | exact oc rfl (hr) | exact oc rfl (u0) | exact oc rfl (u1) | exact oc rfl (u2)))) | ((with_reducible apply r_newY); (focus exact rfl); (focus exact rfl); (focus exact tf); (focus exact dn)) | ((with_reducible apply r_noT); (focus exact rfl); (focus exact rfl); (focus exact ff)) | ((with_reducible apply r_noF); (focus exact rfl); (focus exact rfl); (focus exact tt)) | ((with_reducible apply r_noU); (focus exact rfl); (focus exact rfl)) | ((with_reducible apply r_splitD); (focus exact rfl); (focus exact rfl)) | ((with_reducible apply r_split); (focus exact rfl); (focus exact rfl))))
      ((with_reducible first | apply q_retR | apply q_retN); (focus exact rl))
      rfl
    rw [i2] at u2
    have j0 := inR_iff.1 i0
    have j1 := inR_iff.1 i1
    have j2 := inR_iff.1 i2
    obtain ⟨m, rfl⟩ : ∃ m : Nat, x0 = m := ⟨x0.toNat, by omega⟩
    obtain ⟨n, rfl⟩ : ∃ n : Nat, x1 = n := ⟨x1.toNat, by omega⟩
    obtain ⟨hok, h5, _, _⟩ := heatE_ok he
    have h9 := hok.l9
    obtain ⟨hc1, hc2⟩ := hok.c
    obtain ⟨hb1, hb2⟩ := hok.b
    have hcp := copyInts_A t (by omega)
    have g1 := heated_A t a c b m hok h5 (by omega)
    have g2 := heated_A t a c b (m + n) hok h5 (by omega)
    have g3 := heated_A (heatN a c b t m) a c b n (heatN_ok hok h5 m) h5 (by omega)
    have g4 := heated_A (lst (hotF t x2) t.length) a c b m (hot_ok hok j2) h5 (by omega)
    rw [Int.natCast_add] at g2
    have lA := heatN_len a c b t m
    have lB := heatN_len a c b t (m + n)
    have lC := heatN_len a c b (heatN a c b t m) n
    have lD := heatN_len a c b (lst (hotF t x2) t.length) m
    rw [lst_length] at lD
    rw [← heatN_add] at g3 lC
    have hcA := copyInts_A (heatN a c b t m) (by omega)
    have hin := ints_A (heatN a c b t (m + n)) (heatN a c b t (m + n)) (by omega) (by omega)
    rw [decide_eq_true rfl] at hin
    have hlo := loT_le a t t.length
    have hhi := le_hiT a t t.length
    have bA := fun i hi => heatN_in (lo := loT a t t.length) (hi := hiT a t t.length) hc1 hb1 h5 ⟨hlo.1, hhi.1⟩ (fun i hi => ⟨hlo.2 i hi, hhi.2 i hi⟩) m i hi
    have bB := fun i hi => heatN_in (lo := loT a t t.length) (hi := hiT a t t.length) hc1 hb1 h5 ⟨hlo.1, hhi.1⟩ (fun i hi => ⟨hlo.2 i hi, hhi.2 i hi⟩) (m + n) i hi
    have bD := fun i hi => heatN_mono (a := a) hc1 hb1 h5 (t := t) (u := lst (hotF t x2) t.length) (lst_length _ _).symm (fun i hi => by
      rw [lst_nth _ hi]
      have := hok.tb _ (nth_mem hi)
      have := hot_rng j2 i
      unfold hotF; omega) m i hi
    have tb := fun i (hi : i < t.length) => hok.tb _ (nth_mem hi)
    generalize heatN a c b t m = A at *
    generalize heatN a c b t (m + n) = E at *
    generalize heatN a c b (lst (hotF t x2) t.length) m = D at *
    refine ac_body Try.func5 rfl (by kernel_rfl) fun w0 ok => ?_; show AWp _ (ctx0 w0 ok _) _ (ARet _ _ _) (entry _)
    (repeat' (first | (with_reducible first | intro hg | refine awp_seq ?_ | refine q_seq ?_ | refine q_blk ?_ | refine awp_block ?_ | refine awp_skip ?_ | refine awp_ret ?_ | refine awp_exit ?_ | refine q_seqE ?_ | refine q_seqR ?_ | refine q_blkR ?_ | refine q_blkE ?_) | ((with_reducible refine awp_region ?_ ?_); (focus exact kr)) | ((with_reducible refine awp_region_any mixed ?_ ?_); (focus exact kr)) | ((with_reducible apply awp_condT); (focus exact rfl); (focus exact tt)) | ((with_reducible apply awp_condF); (focus exact rfl); (focus exact ff)) | ((with_reducible apply awp_condD); (focus exact rfl)) | ((with_reducible apply awp_condN); (focus exact rfl)) | ((with_reducible apply awp_cond); (focus exact rfl)) | ((with_reducible refine q_blkX ?_ ?_); (focus exact rfl)) | ((with_reducible refine r_nil (And.intro ?_ ?_)); (focus exact kr)) | (with_reducible refine r_nil ?_) | ((with_reducible apply r_put); (focus (first | exact dp | exact oc rfl (aw) | exact oc rfl (hr) | exact oc rfl (u0) | exact oc rfl (u1) | exact oc rfl (u2) | exact oc rfl (hcp) | exact oc rfl (g1) | exact oc rfl (g2)))) | ((with_reducible apply r_new); (focus exact dn)) | ((with_reducible apply r_app); (focus exact da)) | ((with_reducible apply r_set); (focus exact ds)) | ((with_reducible apply r_putY); (focus exact rfl); (focus exact rfl); (focus exact tf); (focus (first | exact dp | exact oc rfl (aw) | exact oc rfl (hr) | exact oc rfl (u0) | exact oc rfl (u1) | exact oc rfl (u2) | exact oc rfl (hcp) | exact oc rfl (g1) | exact oc rfl (g2)))) | ((with_reducible apply r_newY); (focus exact rfl); (focus exact rfl); (focus exact tf); (focus exact dn)) | ((with_reducible apply r_noT); (focus exact rfl); (focus exact rfl); (focus exact ff)) | ((with_reducible apply r_noF); (focus exact rfl); (focus exact rfl); (focus exact tt)) | ((with_reducible apply r_noU); (focus exact rfl); (focus exact rfl)) | ((with_reducible apply r_splitD); (focus exact rfl); (focus exact rfl)) | ((with_reducible apply r_split); (focus exact rfl); (focus exact rfl))))
    refine awp_loopL (α := Nat) (fun k => [(0, .d (isl t)), (4, .ptr 4 0), (5, .ptr 5 0), (7, .d (isl A)), (9, .d (isl E)), (11, .d (I (loT a t k))), (12, .d (I (hiT a t k))), (13, ownS 121 k), (14, .d (I k))])
      (fun k => (4, ⟨46, [I a, I c, I b]⟩) :: (5, ⟨52, [I m, I n, I x2]⟩) :: ownM 121 3 (ivs (lst (hotF t x2) k)) k) (fun k => k ≤ t.length) (fun k => t.length - k) 0 (Nat.zero_le _) (And.intro rfl (And.intro rfl (And.intro rfl (And.intro rfl (And.intro rfl (And.intro rfl (And.intro rfl (And.intro rfl (And.intro rfl trivial))))))))) (And.intro rfl (And.intro rfl trivial)) fun k hk => ?_
    by_cases hlt : k < t.length
    · have hx := tb k hlt
      have hx2 := hot_rng j2 k
      have hsn := fun v (hv : v = hotF t x2 k) => blk_snoc 3 (hotF t x2) k hv
      rcases k with _ | k
      · (repeat' (first | (with_reducible first | intro hg | refine awp_seq ?_ | refine q_seq ?_ | refine q_blk ?_ | refine awp_block ?_ | refine awp_skip ?_ | refine awp_ret ?_ | refine awp_exit ?_ | refine q_seqE ?_ | refine q_seqR ?_ | refine q_blkR ?_ | refine q_blkE ?_) | ((with_reducible refine awp_region ?_ ?_); (focus exact kr)) | ((with_reducible refine awp_region_any mixed ?_ ?_); (focus exact kr)) | ((with_reducible apply awp_condT); (focus exact rfl); (focus exact tt)) | ((with_reducible apply awp_condF); (focus exact rfl); (focus exact ff)) | ((with_reducible apply awp_condD); (focus exact rfl)) | ((with_reducible apply awp_condN); (focus exact rfl)) | ((with_reducible apply awp_cond); (focus exact rfl)) | ((with_reducible refine q_blkX ?_ ?_); (focus exact rfl)) | ((with_reducible refine r_nil (And.intro ?_ ?_)); (focus exact kr)) | (with_reducible refine r_nil ?_) | ((with_reducible apply r_put); (focus (first | exact o_indexI (j := 0) rfl rfl (by omega) rfl | exact dp))) | ((with_reducible apply r_new); (focus exact dn)) | ((with_reducible apply r_app); (focus exact da)) | ((with_reducible apply r_set); (focus exact ds)) | ((with_reducible apply r_putY); (focus exact rfl); (focus exact rfl); (focus exact tf); (focus (first | exact o_indexI (j := 0) rfl rfl (by omega) rfl | exact dp))) | ((with_reducible apply r_newY); (focus exact rfl); (focus exact rfl); (focus exact tf); (focus exact dn)) | ((with_reducible apply r_noT); (focus exact rfl); (focus exact rfl); (focus exact ff)) | ((with_reducible apply r_noF); (focus exact rfl); (focus exact rfl); (focus exact tt)) | ((with_reducible apply r_noU); (focus exact rfl); (focus exact rfl)) | ((with_reducible apply r_splitD); (focus exact rfl); (focus exact rfl)) | ((with_reducible apply r_split); (focus exact rfl); (focus exact rfl))))
        exact ⟨1, hlt, by omega, (And.intro rfl (And.intro rfl (And.intro rfl (And.intro rfl (And.intro rfl (And.intro rfl (And.intro rfl (And.intro rfl (And.intro rfl trivial))))))))), (And.intro rfl (And.intro rfl (And.intro (hsn _ rfl) trivial)))⟩
      · (repeat' (first | (with_reducible first | intro hg | refine awp_seq ?_ | refine q_seq ?_ | refine q_blk ?_ | refine awp_block ?_ | refine awp_skip ?_ | refine awp_ret ?_ | refine awp_exit ?_ | refine q_seqE ?_ | refine q_seqR ?_ | refine q_blkR ?_ | refine q_blkE ?_) | ((with_reducible refine awp_region ?_ ?_); (focus exact kr)) | ((with_reducible refine awp_region_any mixed ?_ ?_); (focus exact kr)) | ((with_reducible apply awp_condT); (focus exact rfl); (focus exact tt)) | ((with_reducible apply awp_condF); (focus exact rfl); (focus exact ff)) | ((with_reducible apply awp_condD); (focus exact rfl)) | ((with_reducible apply awp_condN); (focus exact rfl)) | ((with_reducible apply awp_cond); (focus exact rfl)) | ((with_reducible refine q_blkX ?_ ?_); (focus exact rfl)) | ((with_reducible refine r_nil (And.intro ?_ ?_)); (focus exact kr)) | (with_reducible refine r_nil ?_) | ((with_reducible apply r_put); (focus (first | exact o_indexI (j := k + 1) rfl rfl (by omega) rfl | exact dp))) | ((with_reducible apply r_new); (focus exact dn)) | ((with_reducible apply r_app); (focus exact da)) | ((with_reducible apply r_set); (focus exact ds)) | ((with_reducible apply r_putY); (focus exact rfl); (focus exact rfl); (focus exact tf); (focus (first | exact o_indexI (j := k + 1) rfl rfl (by omega) rfl | exact dp))) | ((with_reducible apply r_newY); (focus exact rfl); (focus exact rfl); (focus exact tf); (focus exact dn)) | ((with_reducible apply r_noT); (focus exact rfl); (focus exact rfl); (focus exact ff)) | ((with_reducible apply r_noF); (focus exact rfl); (focus exact rfl); (focus exact tt)) | ((with_reducible apply r_noU); (focus exact rfl); (focus exact rfl)) | ((with_reducible apply r_splitD); (focus exact rfl); (focus exact rfl)) | ((with_reducible apply r_split); (focus exact rfl); (focus exact rfl))))
        exact ⟨k + 1 + 1, hlt, by omega, (And.intro rfl (And.intro rfl (And.intro rfl (And.intro rfl (And.intro rfl (And.intro rfl (And.intro rfl (And.intro rfl (And.intro rfl trivial))))))))), (And.intro rfl (And.intro rfl (And.intro (hsn _ rfl) trivial)))⟩
    obtain rfl : k = t.length := by omega
    refine awp_own 13 121 (t := 3) (hotF t x2) rfl (fun k hk => by rw [hk]; rfl) ?_
    (repeat' (first | (with_reducible first | intro hg | refine awp_seq ?_ | refine q_seq ?_ | refine q_blk ?_ | refine awp_block ?_ | refine awp_skip ?_ | refine awp_ret ?_ | refine awp_exit ?_ | refine q_seqE ?_ | refine q_seqR ?_ | refine q_blkR ?_ | refine q_blkE ?_) | ((with_reducible refine awp_region ?_ ?_); (focus exact kr)) | ((with_reducible refine awp_region_any mixed ?_ ?_); (focus exact kr)) | ((with_reducible apply awp_condT); (focus exact rfl); (focus exact tt)) | ((with_reducible apply awp_condF); (focus exact rfl); (focus exact ff)) | ((with_reducible apply awp_condD); (focus exact rfl)) | ((with_reducible apply awp_condN); (focus exact rfl)) | ((with_reducible apply awp_cond); (focus exact rfl)) | ((with_reducible refine q_blkX ?_ ?_); (focus exact rfl)) | ((with_reducible refine r_nil (And.intro ?_ ?_)); (focus exact kr)) | (with_reducible refine r_nil ?_) | ((with_reducible apply r_put); (focus exact dp)) | ((with_reducible apply r_new); (focus exact dn)) | ((with_reducible apply r_app); (focus exact da)) | ((with_reducible apply r_set); (focus exact ds)) | ((with_reducible apply r_putY); (focus exact rfl); (focus exact rfl); (focus exact tf); (focus exact dp)) | ((with_reducible apply r_newY); (focus exact rfl); (focus exact rfl); (focus exact tf); (focus exact dn)) | ((with_reducible apply r_noT); (focus exact rfl); (focus exact rfl); (focus exact ff)) | ((with_reducible apply r_noF); (focus exact rfl); (focus exact rfl); (focus exact tt)) | ((with_reducible apply r_noU); (focus exact rfl); (focus exact rfl)) | ((with_reducible apply r_splitD); (focus exact rfl); (focus exact rfl)) | ((with_reducible apply r_split); (focus exact rfl); (focus exact rfl))))
    generalize loT a t t.length = lo at *
    generalize hiT a t t.length = hi at *
    refine awp_loopL (α := Nat) (fun k => [(0, .d (isl t)), (4, .ptr 4 0), (5, .ptr 5 0), (7, .d (isl A)), (9, .d (isl E)), (11, .d (I lo)), (12, .d (I hi)), (13, .d (isl (lst (hotF t x2) t.length))), (15, .d (I k))])
      (fun _ => [(4, ⟨46, [I a, I c, I b]⟩), (5, ⟨52, [I m, I n, I x2]⟩)]) (fun k => k ≤ t.length) (fun k => t.length - k) 0 (Nat.zero_le _) (And.intro rfl (And.intro rfl (And.intro rfl (And.intro rfl (And.intro rfl (And.intro rfl (And.intro rfl (And.intro rfl (And.intro rfl trivial))))))))) (And.intro rfl (And.intro rfl trivial)) fun k hk => ?_
    by_cases hlt : k < t.length
    · have v1 := bwithin_A (nth A k) lo hi
      rw [inR_iff.2 (bA k hlt)] at v1
      have v2 := bwithin_A (nth E k) lo hi
      rw [inR_iff.2 (bB k hlt)] at v2
      (repeat' (first | (with_reducible first | intro hg | refine awp_seq ?_ | refine q_seq ?_ | refine q_blk ?_ | refine awp_block ?_ | refine awp_skip ?_ | refine awp_ret ?_ | refine awp_exit ?_ | refine q_seqE ?_ | refine q_seqR ?_ | refine q_blkR ?_ | refine q_blkE ?_) | ((with_reducible refine awp_region ?_ ?_); (focus exact kr)) | ((with_reducible refine awp_region_any mixed ?_ ?_); (focus exact kr)) | ((with_reducible apply awp_condT); (focus exact rfl); (focus exact tt)) | ((with_reducible apply awp_condF); (focus exact rfl); (focus exact ff)) | ((with_reducible apply awp_condD); (focus exact rfl)) | ((with_reducible apply awp_condN); (focus exact rfl)) | ((with_reducible apply awp_cond); (focus exact rfl)) | ((with_reducible refine q_blkX ?_ ?_); (focus exact rfl)) | ((with_reducible refine r_nil (And.intro ?_ ?_)); (focus exact kr)) | (with_reducible refine r_nil ?_) | ((with_reducible apply r_put); (focus (first | exact o_indexI (j := k) (xs := A) rfl rfl (by omega) rfl | exact o_indexI (j := k) (xs := E) rfl rfl (by omega) rfl | exact dp | exact oc rfl (v1) | exact oc rfl (v2)))) | ((with_reducible apply r_new); (focus exact dn)) | ((with_reducible apply r_app); (focus exact da)) | ((with_reducible apply r_set); (focus exact ds)) | ((with_reducible apply r_putY); (focus exact rfl); (focus exact rfl); (focus exact tf); (focus (first | exact o_indexI (j := k) (xs := A) rfl rfl (by omega) rfl | exact o_indexI (j := k) (xs := E) rfl rfl (by omega) rfl | exact dp | exact oc rfl (v1) | exact oc rfl (v2)))) | ((with_reducible apply r_newY); (focus exact rfl); (focus exact rfl); (focus exact tf); (focus exact dn)) | ((with_reducible apply r_noT); (focus exact rfl); (focus exact rfl); (focus exact ff)) | ((with_reducible apply r_noF); (focus exact rfl); (focus exact rfl); (focus exact tt)) | ((with_reducible apply r_noU); (focus exact rfl); (focus exact rfl)) | ((with_reducible apply r_splitD); (focus exact rfl); (focus exact rfl)) | ((with_reducible apply r_split); (focus exact rfl); (focus exact rfl))))
      exact ⟨k + 1, hlt, by omega, (And.intro rfl (And.intro rfl (And.intro rfl (And.intro rfl (And.intro rfl (And.intro rfl (And.intro rfl (And.intro rfl (And.intro rfl trivial))))))))), (And.intro rfl (And.intro rfl trivial))⟩
    (repeat' (first | (with_reducible first | intro hg | refine awp_seq ?_ | refine q_seq ?_ | refine q_blk ?_ | refine awp_block ?_ | refine awp_skip ?_ | refine awp_ret ?_ | refine awp_exit ?_ | refine q_seqE ?_ | refine q_seqR ?_ | refine q_blkR ?_ | refine q_blkE ?_) | ((with_reducible refine awp_region ?_ ?_); (focus exact kr)) | ((with_reducible refine awp_region_any mixed ?_ ?_); (focus exact kr)) | ((with_reducible apply awp_condT); (focus exact rfl); (focus exact tt)) | ((with_reducible apply awp_condF); (focus exact rfl); (focus exact ff)) | ((with_reducible apply awp_condD); (focus exact rfl)) | ((with_reducible apply awp_condN); (focus exact rfl)) | ((with_reducible apply awp_cond); (focus exact rfl)) | ((with_reducible refine q_blkX ?_ ?_); (focus exact rfl)) | ((with_reducible refine r_nil (And.intro ?_ ?_)); (focus exact kr)) | (with_reducible refine r_nil ?_) | ((with_reducible apply r_put); (focus (first | exact dp | exact oc rfl (hcA) | exact oc rfl (g3) | exact oc rfl (g4) | exact oc rfl (hin)))) | ((with_reducible apply r_new); (focus exact dn)) | ((with_reducible apply r_app); (focus exact da)) | ((with_reducible apply r_set); (focus exact ds)) | ((with_reducible apply r_putY); (focus exact rfl); (focus exact rfl); (focus exact tf); (focus (first | exact dp | exact oc rfl (hcA) | exact oc rfl (g3) | exact oc rfl (g4) | exact oc rfl (hin)))) | ((with_reducible apply r_newY); (focus exact rfl); (focus exact rfl); (focus exact tf); (focus exact dn)) | ((with_reducible apply r_noT); (focus exact rfl); (focus exact rfl); (focus exact ff)) | ((with_reducible apply r_noF); (focus exact rfl); (focus exact rfl); (focus exact tt)) | ((with_reducible apply r_noU); (focus exact rfl); (focus exact rfl)) | ((with_reducible apply r_splitD); (focus exact rfl); (focus exact rfl)) | ((with_reducible apply r_split); (focus exact rfl); (focus exact rfl))))
    refine awp_loopL (α := Nat) (fun k => [(0, .d (isl t)), (7, .d (isl A)), (18, .d (isl D)), (20, .d (I k))]) (fun _ => []) (fun k => k ≤ t.length) (fun k => t.length - k) 0 (Nat.zero_le _) (And.intro rfl (And.intro rfl (And.intro rfl (And.intro rfl trivial)))) trivial fun k hk => ?_
    by_cases hlt : k < t.length
    · have := bD k hlt
      (repeat' (first | (with_reducible first | intro hg | refine awp_seq ?_ | refine q_seq ?_ | refine q_blk ?_ | refine awp_block ?_ | refine awp_skip ?_ | refine awp_ret ?_ | refine awp_exit ?_ | refine q_seqE ?_ | refine q_seqR ?_ | refine q_blkR ?_ | refine q_blkE ?_) | ((with_reducible refine awp_region ?_ ?_); (focus exact kr)) | ((with_reducible refine awp_region_any mixed ?_ ?_); (focus exact kr)) | ((with_reducible apply awp_condT); (focus exact rfl); (focus exact tt)) | ((with_reducible apply awp_condF); (focus exact rfl); (focus exact ff)) | ((with_reducible apply awp_condD); (focus exact rfl)) | ((with_reducible apply awp_condN); (focus exact rfl)) | ((with_reducible apply awp_cond); (focus exact rfl)) | ((with_reducible refine q_blkX ?_ ?_); (focus exact rfl)) | ((with_reducible refine r_nil (And.intro ?_ ?_)); (focus exact kr)) | (with_reducible refine r_nil ?_) | ((with_reducible apply r_put); (focus (first | exact o_indexI (j := k) (xs := A) rfl rfl (by omega) rfl | exact o_indexI (j := k) (xs := D) rfl rfl (by omega) rfl | exact dp))) | ((with_reducible apply r_new); (focus exact dn)) | ((with_reducible apply r_app); (focus exact da)) | ((with_reducible apply r_set); (focus exact ds)) | ((with_reducible apply r_putY); (focus exact rfl); (focus exact rfl); (focus exact tf); (focus (first | exact o_indexI (j := k) (xs := A) rfl rfl (by omega) rfl | exact o_indexI (j := k) (xs := D) rfl rfl (by omega) rfl | exact dp))) | ((with_reducible apply r_newY); (focus exact rfl); (focus exact rfl); (focus exact tf); (focus exact dn)) | ((with_reducible apply r_noT); (focus exact rfl); (focus exact rfl); (focus exact ff)) | ((with_reducible apply r_noF); (focus exact rfl); (focus exact rfl); (focus exact tt)) | ((with_reducible apply r_noU); (focus exact rfl); (focus exact rfl)) | ((with_reducible apply r_splitD); (focus exact rfl); (focus exact rfl)) | ((with_reducible apply r_split); (focus exact rfl); (focus exact rfl))))
      exact ⟨k + 1, hlt, by omega, (And.intro rfl (And.intro rfl (And.intro rfl (And.intro rfl trivial)))), trivial⟩
    (repeat' (first | (with_reducible first | intro hg | refine awp_seq ?_ | refine q_seq ?_ | refine q_blk ?_ | refine awp_block ?_ | refine awp_skip ?_ | refine awp_ret ?_ | refine awp_exit ?_ | refine q_seqE ?_ | refine q_seqR ?_ | refine q_blkR ?_ | refine q_blkE ?_) | ((with_reducible refine awp_region ?_ ?_); (focus exact kr)) | ((with_reducible refine awp_region_any mixed ?_ ?_); (focus exact kr)) | ((with_reducible apply awp_condT); (focus exact rfl); (focus exact tt)) | ((with_reducible apply awp_condF); (focus exact rfl); (focus exact ff)) | ((with_reducible apply awp_condD); (focus exact rfl)) | ((with_reducible apply awp_condN); (focus exact rfl)) | ((with_reducible apply awp_cond); (focus exact rfl)) | ((with_reducible refine q_blkX ?_ ?_); (focus exact rfl)) | ((with_reducible refine r_nil (And.intro ?_ ?_)); (focus exact kr)) | (with_reducible refine r_nil ?_) | ((with_reducible apply r_put); (focus exact dp)) | ((with_reducible apply r_new); (focus exact dn)) | ((with_reducible apply r_app); (focus exact da)) | ((with_reducible apply r_set); (focus exact ds)) | ((with_reducible apply r_putY); (focus exact rfl); (focus exact rfl); (focus exact tf); (focus exact dp)) | ((with_reducible apply r_newY); (focus exact rfl); (focus exact rfl); (focus exact tf); (focus exact dn)) | ((with_reducible apply r_noT); (focus exact rfl); (focus exact rfl); (focus exact ff)) | ((with_reducible apply r_noF); (focus exact rfl); (focus exact rfl); (focus exact tt)) | ((with_reducible apply r_noU); (focus exact rfl); (focus exact rfl)) | ((with_reducible apply r_splitD); (focus exact rfl); (focus exact rfl)) | ((with_reducible apply r_split); (focus exact rfl); (focus exact rfl))))
    ((with_reducible first | apply q_retR | apply q_retN); (focus exact rl))
    rfl
  · refine ac_body Try.func5 rfl (by kernel_rfl) fun w0 ok => ?_; show AWp _ (ctx0 w0 ok _) _ (ARet _ _ _) (entry _)
    (repeat' (first | (with_reducible first | intro hg | refine awp_seq ?_ | refine q_seq ?_ | refine q_blk ?_ | refine awp_block ?_ | refine awp_skip ?_ | refine awp_ret ?_ | refine awp_exit ?_ | refine q_seqE ?_ | refine q_seqR ?_ | refine q_blkR ?_ | refine q_blkE ?_) | ((with_reducible refine awp_region ?_ ?_); (focus exact kr)) | ((with_reducible refine awp_region_any mixed ?_ ?_); (focus exact kr)) | ((with_reducible apply awp_condT); (focus exact rfl); (focus exact tt)) | ((with_reducible apply awp_condF); (focus exact rfl); (focus exact ff)) | ((with_reducible apply awp_condD); (focus exact rfl)) | ((with_reducible apply awp_condN); (focus exact rfl)) | ((with_reducible apply awp_cond); (focus exact rfl)) | ((with_reducible refine q_blkX ?_ ?_); (focus exact rfl)) | ((with_reducible refine r_nil (And.intro ?_ ?_)); (focus exact kr)) | (with_reducible refine r_nil ?_) | ((with_reducible apply r_put); (focus (first | exact dp | exact oc rfl (aw) | exact oc rfl (hr)))) | ((with_reducible apply r_new); (focus exact dn)) | ((with_reducible apply r_app); (focus exact da)) | ((with_reducible apply r_set); (focus exact ds)) | ((with_reducible apply r_putY); (focus exact rfl); (focus exact rfl); (focus exact tf); (focus (first | exact dp | exact oc rfl (aw) | exact oc rfl (hr)))) | ((with_reducible apply r_newY); (focus exact rfl); (focus exact rfl); (focus exact tf); (focus exact dn)) | ((with_reducible apply r_noT); (focus exact rfl); (focus exact rfl); (focus exact ff)) | ((with_reducible apply r_noF); (focus exact rfl); (focus exact rfl); (focus exact tt)) | ((with_reducible apply r_noU); (focus exact rfl); (focus exact rfl)) | ((with_reducible apply r_splitD); (focus exact rfl); (focus exact rfl)) | ((with_reducible apply r_split); (focus exact rfl); (focus exact rfl))))
    ((with_reducible first | apply q_retR | apply q_retN); (focus exact rl))
    rfl

end Go.Proofs.Ytgklcfjfegceeaa
