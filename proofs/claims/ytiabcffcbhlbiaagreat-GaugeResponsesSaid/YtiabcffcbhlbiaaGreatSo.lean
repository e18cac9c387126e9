/- The gain bound: theory; exact loops; products of fractions. -/
import Derived.Test.YtiabcffcbhlbiaaGreatSd
import Derived.Test.YtiabcffcbhlbiaaGreatSm
set_option linter.unusedVariables false
set_option linter.unusedSimpArgs false
namespace Go.Proofs.YtiabcffcbhlbiaaGreat
open Go.RowKit
set_option maxRecDepth 20000
set_option maxHeartbeats 8000000

/-! The gain bound. -/
theorem nmb_nat {den : Int} {c : List Int} {m : Nat} (hd : 1 ≤ den ∧ den ≤ 10) (h3 : c.length ≤ 3) (hc : ∀ i, (nth c i).natAbs ≤ 10) (w : List Int) {n : Nat} (hw : ∀ i, i < n → 1 ≤ nth w i ∧ nth w i ≤ 10) {t : Nat} (ht : t ≤ m) : ∀ i, i ≤ n → 0 ≤ mst den c w m t i ∧ mst den c w m t i ≤ (30 ^ m * 2520 : Nat)
  | 0, _ => ⟨Int.le_refl _, by unfold mst; omega⟩
  | i + 1, hi => by
    have ih := nmb_nat hd h3 hc w hw ht i (by omega)
    unfold mst
    cases decide (i ≤ t)
    · exact ih
    · have h1 := (nmb_eq hd h3 hc (show t - i ≤ m by omega)).2
      have hwi := hw i (by omega)
      have h2 : 2520 / nth w i ≤ 2520 := Int.ediv_le_self _ (by decide)
      have h4 : 0 ≤ 2520 / nth w i := Int.ediv_nonneg (by decide) (by omega)
      have h5 : ((nmb den c m (t - i)).natAbs : Int) * (2520 / nth w i) ≤ (30 ^ m : Nat) * 2520 := Int.mul_le_mul (by omega) h2 h4 (by omega)
      have h6 : 0 ≤ ((nmb den c m (t - i)).natAbs : Int) * (2520 / nth w i) := Int.mul_nonneg (by omega) h4
      rw [cond_true, Int.natCast_mul]
      omega
def smI (den : Int) (c w : List Int) (m n : Nat) : Nat → Int
  | 0 => 0
  | t + 1 => smI den c w m n t + mst den c w m t n
theorem smI_eq {den : Int} {c w : List Int} {m n : Nat} (hd : 1 ≤ den ∧ den ≤ 10) (h3 : c.length ≤ 3) (hc : ∀ i, (nth c i).natAbs ≤ 10) (hw : ∀ i, i < n → 1 ≤ nth w i ∧ nth w i ≤ 10) : ∀ t, t ≤ m + 1 → ((smI den c w m n t : Int) : Rat) = sumQ (fun t => wtR w (rst den c t) n) t * (2520 * ((den ^ m : Int) : Rat))
  | 0, _ => by
    show ((0 : Int) : Rat) = 0 * _
    rw [Rat.zero_mul]; rfl
  | t + 1, ht => by
    unfold smI sumQ
    rw [Rat.intCast_add, smI_eq hd h3 hc hw t (by omega), mst_eq (m := m) hd h3 hc (show t ≤ m by omega) hw n (Nat.le_refl _)]
    grind
theorem smI_bnd {den : Int} {c w : List Int} {m n : Nat} (hd : 1 ≤ den ∧ den ≤ 10) (h3 : c.length ≤ 3) (hc : ∀ i, (nth c i).natAbs ≤ 10) (hw : ∀ i, i < n → 1 ≤ nth w i ∧ nth w i ≤ 10) : ∀ t, t ≤ m + 1 → 0 ≤ smI den c w m n t ∧ smI den c w m n t ≤ (t * (30 ^ m * 2520) : Nat)
  | 0, _ => ⟨Int.le_refl _, by unfold smI; omega⟩
  | t + 1, ht => by
    have ih := smI_bnd (m := m) hd h3 hc hw t (by omega)
    have h1 := nmb_nat hd h3 hc w hw (show t ≤ m by omega) n (Nat.le_refl _)
    unfold smI
    rw [Nat.add_mul]
    omega
theorem rat_mul_num (p q : Rat) : (p * q).num = (p.num.tdiv (Int.gcd p.num q.den)) * (q.num.tdiv (Int.gcd q.num p.den)) := by
  show (Rat.mul p q).num = _
  unfold Rat.mul
  simp only [Int.divExact_eq_tdiv]
  rfl
theorem rat_mul_den (p q : Rat) : ((p * q).den : Int) = ((p.den : Int) / (Int.gcd q.num p.den)) * ((q.den : Int) / (Int.gcd p.num q.den)) := by
  show ((Rat.mul p q).den : Int) = _
  unfold Rat.mul
  rfl
/-- The sum that the gain bound multiplies. -/
def gnS (den : Int) (c w : List Int) (n s : Nat) : Rat := ((nth w 0 : Int) : Rat) * sumQ (fun t => wtR w (rst den c t) n) s
theorem gnS_low {den : Int} {c w : List Int} {m n : Nat} (hd : 1 ≤ den ∧ den ≤ 10) (h3 : c.length ≤ 3) (hc : ∀ i, (nth c i).natAbs ≤ 10) (hw : ∀ i, i < n → 1 ≤ nth w i ∧ nth w i ≤ 10) : low (nth w 0 * smI den c w m n (m + 1)) (den ^ m * 2520) = qF (gnS den c w n (m + 1)) := by
  have hp := pow_pos hd.1 m
  have hD : 0 < den ^ m * 2520 := by omega
  rw [low_divInt hD]
  have h1 := smI_eq (n := n) hd h3 hc hw (m + 1) (Nat.le_refl _)
  have h2 : gnS den c w n (m + 1) * ((den ^ m * 2520 : Int) : Rat) = ((nth w 0 * smI den c w m n (m + 1) : Int) : Rat) := by
    unfold gnS
    rw [Rat.intCast_mul, Rat.intCast_mul, h1]
    have : ((2520 : Int) : Rat) = 2520 := rfl
    rw [this]
    grind
  rw [← ov_eq (by omega) h2]
theorem inv_low {r : Rat} (h : r < 1) : low (r.den : Int) ((r.den : Int) - r.num) = qF (1 / (1 - r)) ∧ 0 < (r.den : Int) - r.num := by
  have h1 := (lt_one_iff r).1 h
  have hD : 0 < (r.den : Int) - r.num := by omega
  refine ⟨?_, hD⟩
  rw [low_divInt hD]
  have h2 : 1 / (1 - r) * (((r.den : Int) - r.num : Int) : Rat) = (((r.den : Int) : Int) : Rat) := by
    have e1 : ((((r.den : Int) - r.num : Int)) : Rat) = (((r.den : Int) : Int) : Rat) * (1 - r) := by
      rw [Int.sub_eq_add_neg, Rat.intCast_add, Rat.intCast_neg]
      have := divInt_mul_cast r.num (show (r.den : Int) ≠ 0 by have := den_pos r; omega)
      rw [Rat.num_divInt_den] at this
      rw [← this]
      grind
    rw [e1]
    have h0 : 1 - r ≠ 0 := by grind
    grind
  rw [← ov_eq (by omega) h2]
/-- The gain bound. -/
def gnB (den : Int) (c w : List Int) (n s : Nat) (N : Rat) : Rat := gnS den c w n s / (1 - N)
theorem gnB_mul (den : Int) (c w : List Int) (n s : Nat) (N : Rat) : gnS den c w n s * (1 / (1 - N)) = gnB den c w n s N := by
  unfold gnB
  grind

def exI : List Rg → Nat → Int
  | [], _ => -1
  | r :: l, k => bif decide (r.1 = r.2) then exI l (k + 1) else (k : Int)
theorem exI_drop {c : List Rg} {k : Nat} (h : k < c.length) : exI (c.drop k) k = bif decide ((c.getD k rg0).1 = (c.getD k rg0).2) then exI (c.drop (k + 1)) (k + 1) else (k : Int) := by
  rw [List.drop_eq_getElem_cons h, List.getD_eq_getElem?_getD, List.getElem?_eq_getElem h]; rfl
theorem exI_exB : ∀ (c : List Rg) (k : Nat), decide (0 ≤ exI c k) = !exB c
  | [], _ => rfl
  | r :: c, k => by
    unfold exI
    have ih := exI_exB c (k + 1)
    have e : exB (r :: c) = (decide (r.1 = r.2) && exB c) := rfl
    rw [e]
    cases decide (r.1 = r.2)
    · show decide (0 ≤ (k : Int)) = true
      exact decide_eq_true (by omega)
    · exact ih
theorem exOne_A (r : Rg) : AC Tryz.prog 127 [.agg (frC r)] (B (decide (r.1 ≠ r.2))) := by
  refine ac_body Tryz.func127 rfl (by kernel_rfl) fun w0 ok => ?_; show AWp _ (ctx0 w0 ok _) _ (ARet _ _ _) (entry _)
  exact zF
theorem exIdx_A (c : List Rg) (hm : c.length ≤ 140737488355328) : AC Tryz.prog 158 [rgV c, fnV 127] (I (exI c 0)) := by
  refine ac_body Tryz.func158 rfl (by kernel_rfl) fun w0 ok => ?_; show AWp _ (ctx0 w0 ok _) _ (ARet _ _ _) (entry _)
  (repeat' (first | (with_reducible first | intro hg | refine mv (by constructor) ?_) | ((with_reducible first | refine zR ?_ ?_ | refine zW mixed ?_ ?_); exact kr) | ((with_reducible apply zK); exact rfl; exact tf) | ((with_reducible apply zCD); exact rfl) | ((with_reducible apply zCN); exact rfl) | ((with_reducible apply zC); exact rfl) | ((with_reducible refine zX ?_ ?_); exact rfl) | ((with_reducible refine zE (And.intro ?_ ?_)); exact kr) | (with_reducible refine zE ?_) | ((with_reducible apply zP); exact dp) | ((with_reducible apply zN); exact dn) | ((with_reducible apply zA); exact da) | ((with_reducible apply zS); exact ds) | ((with_reducible apply zY); exact rfl; exact rfl; exact tf) | ((with_reducible apply zG); exact rfl; exact rfl; exact tf) | ((with_reducible apply zU); exact rfl; exact rfl) | ((with_reducible apply zD); exact rfl; exact rfl) | ((with_reducible apply zB); exact rfl; exact rfl)))
  refine awp_loopL (α := Nat) (fun k => [(0, .d (rgV c)), (1, .d (fnV 127)), (7, .d (I c.length)), (8, .d (I k))]) (fun _ => []) (fun k => k ≤ c.length ∧ exI c 0 = exI (c.drop k) k) (fun k => c.length - k) 0 ⟨Nat.zero_le _, rfl⟩ (And.intro rfl (And.intro rfl (And.intro rfl (And.intro rfl trivial)))) trivial fun k ⟨hk, hE⟩ => ?_
  by_cases hlt : k < c.length
  · rw [exI_drop hlt] at hE
    have he := exOne_A (c.getD k rg0)
    have hen := EntI.eq (P := Tryz.prog) (f := 127)
    by_cases hq : (c.getD k rg0).1 = (c.getD k rg0).2
    · rw [decide_eq_false (show ¬ (c.getD k rg0).1 ≠ (c.getD k rg0).2 from fun h => h hq)] at he
      rw [decide_eq_true hq] at hE
      have hE : exI c 0 = exI (c.drop (k + 1)) (k + 1) := hE
      (repeat' (first | (with_reducible first | intro hg | refine mv (by constructor) ?_) | ((with_reducible first | refine zR ?_ ?_ | refine zW mixed ?_ ?_); exact kr) | ((with_reducible apply zK); exact rfl; exact tf) | ((with_reducible apply zCD); exact rfl) | ((with_reducible apply zCN); exact rfl) | ((with_reducible apply zC); exact rfl) | ((with_reducible refine zX ?_ ?_); exact rfl) | ((with_reducible refine zE (And.intro ?_ ?_)); exact kr) | (with_reducible refine zE ?_) | ((with_reducible apply zP); (first | exact o_indexF rg0 frC_len (by decide) rfl rfl (by omega) rfl | exact o_callF hen (by exact FV.val.v rfl) rfl he (.inl rfl) | exact dp)) | ((with_reducible apply zN); exact dn) | ((with_reducible apply zA); exact da) | ((with_reducible apply zS); exact ds) | ((with_reducible apply zY); exact rfl; exact rfl; exact tf) | ((with_reducible apply zG); exact rfl; exact rfl; exact tf) | ((with_reducible apply zU); exact rfl; exact rfl) | ((with_reducible apply zD); exact rfl; exact rfl) | ((with_reducible apply zB); exact rfl; exact rfl)))
      exact ⟨k + 1, ⟨hlt, hE⟩, by omega, (And.intro rfl (And.intro rfl (And.intro rfl (And.intro rfl trivial)))), trivial⟩
    · rw [decide_eq_true hq] at he
      rw [decide_eq_false hq] at hE
      have hE : exI c 0 = k := hE
      rw [hE]
      (repeat' (first | (with_reducible first | intro hg | refine mv (by constructor) ?_) | ((with_reducible first | refine zR ?_ ?_ | refine zW mixed ?_ ?_); exact kr) | ((with_reducible apply zK); exact rfl; exact tf) | ((with_reducible apply zCD); exact rfl) | ((with_reducible apply zCN); exact rfl) | ((with_reducible apply zC); exact rfl) | ((with_reducible refine zX ?_ ?_); exact rfl) | ((with_reducible refine zE (And.intro ?_ ?_)); exact kr) | (with_reducible refine zE ?_) | ((with_reducible apply zP); (first | exact o_indexF rg0 frC_len (by decide) rfl rfl (by omega) rfl | exact o_callF hen (by exact FV.val.v rfl) rfl he (.inl rfl) | exact dp)) | ((with_reducible apply zN); exact dn) | ((with_reducible apply zA); exact da) | ((with_reducible apply zS); exact ds) | ((with_reducible apply zY); exact rfl; exact rfl; exact tf) | ((with_reducible apply zG); exact rfl; exact rfl; exact tf) | ((with_reducible apply zU); exact rfl; exact rfl) | ((with_reducible apply zD); exact rfl; exact rfl) | ((with_reducible apply zB); exact rfl; exact rfl)))
      ((with_reducible first | apply q_retR | apply q_retN); exact rl)
      rfl
  · rw [List.drop_of_length_le (by omega)] at hE
    have hE : exI c 0 = -1 := hE
    rw [hE]
    exact zF
theorem exCon_A (c : List Rg) (hm : c.length ≤ 140737488355328) : AC Tryz.prog 126 [rgV c, fnV 127] (B (!exB c)) := by
  rw [← exI_exB c 0]
  refine ac_body Tryz.func126 rfl (by kernel_rfl) fun w0 ok => ?_; show AWp _ (ctx0 w0 ok _) _ (ARet _ _ _) (entry _)
  (repeat' (first | (with_reducible first | intro hg | refine mv (by constructor) ?_) | ((with_reducible first | refine zR ?_ ?_ | refine zW mixed ?_ ?_); exact kr) | ((with_reducible apply zK); exact rfl; exact tf) | ((with_reducible apply zCD); exact rfl) | ((with_reducible apply zCN); exact rfl) | ((with_reducible apply zC); exact rfl) | ((with_reducible refine zX ?_ ?_); exact rfl) | ((with_reducible refine zE (And.intro ?_ ?_)); exact kr) | (with_reducible refine zE ?_) | ((with_reducible apply zP); (first | exact dp | exact oc rfl (exIdx_A c hm))) | ((with_reducible apply zN); exact dn) | ((with_reducible apply zA); exact da) | ((with_reducible apply zS); exact ds) | ((with_reducible apply zY); exact rfl; exact rfl; exact tf) | ((with_reducible apply zG); exact rfl; exact rfl; exact tf) | ((with_reducible apply zU); exact rfl; exact rfl) | ((with_reducible apply zD); exact rfl; exact rfl) | ((with_reducible apply zB); exact rfl; exact rfl)))
  ((with_reducible first | apply q_retR | apply q_retN); exact rl)
  rfl
def exE (c : List Rg) (den : Int) : Int := fst0 [loE c den, unl (exB c) 3]
theorem exactErr_A (c : List Rg) (den : Int) (hm : c.length ≤ 140737488355328) : AC Tryz.prog 84 [loV c den] (I (exE c den)) := by
  have w1 := checkLoop_A c den hm
  have w2 := exCon_A c hm
  have w3 := first2_A (loE c den) (unl (exB c) 3)
  have e : exE c den = fst0 [loE c den, unl (exB c) 3] := rfl
  rw [← e] at w3
  have w4 := unless_A (exB c) 3
  clear e
  generalize exE c den = u at *
  generalize exB c = b at *
  refine ac_body Tryz.func84 rfl (by kernel_rfl) fun w0 ok => ?_; show AWp _ (ctx0 w0 ok _) _ (ARet _ _ _) (entry _)
  cases b
  all_goals
    exact zF
theorem exE_lo {c : List Rg} {den : Int} (h : loE c den ≠ 0) : exE c den = loE c den := fst0_ne h _
theorem exE_eq {c : List Rg} {den : Int} (h : loE c den = 0) : exE c den = unl (exB c) 3 := by
  unfold exE
  rw [h]
  exact (fst0_zero _).trans (fst0_one _)
/-- A product of two fractions from 0 on. -/
theorem product_q (p q : Rat) (hp : 0 ≤ p) (hq : 0 ≤ q) (p1 : p.num ≤ 1000000000000000000) (p2 : (p.den : Int) ≤ 1000000000000000000) (q1 : q.num ≤ 1000000000000000000) (q2 : (q.den : Int) ≤ 1000000000000000000) : AC Tryz.prog 88 [F2 (qF p), F2 (qF q)] (.tuple [F2 (frQ (p * q)).1, I (frQ (p * q)).2]) := by
  have p0 : 0 ≤ p.num := Rat.num_nonneg.2 hp
  have q0 : 0 ≤ q.num := Rat.num_nonneg.2 hq
  have pd := den_pos p
  have qd := den_pos q
  have hn := rat_mul_num p q
  have hd := rat_mul_den p q
  have w1 := divisor_A p.num (q.den : Int) ⟨by omega, by omega⟩ ⟨by omega, by omega⟩
  have w2 := divisor_A q.num (p.den : Int) ⟨by omega, by omega⟩ ⟨by omega, by omega⟩
  have g1 : 0 < Int.gcd p.num (q.den : Int) := Int.gcd_pos_of_ne_zero_right _ (by omega)
  have g2 : 0 < Int.gcd q.num (p.den : Int) := Int.gcd_pos_of_ne_zero_right _ (by omega)
  have e1 : p.num.tdiv (Int.gcd p.num (q.den : Int)) = p.num / (Int.gcd p.num (q.den : Int)) := Int.tdiv_eq_ediv_of_nonneg p0
  have e2 : q.num.tdiv (Int.gcd q.num (p.den : Int)) = q.num / (Int.gcd q.num (p.den : Int)) := Int.tdiv_eq_ediv_of_nonneg q0
  rw [e1, e2] at hn
  have hpd := den_pos (p * q)
  unfold frQ smQ
  have hf1 : inR ((p * q).den : Int) 1 1000000000 = decide (((p * q).den : Int) ≤ 1000000000) := by
    unfold inR
    rw [decide_eq_true (show (1 : Int) ≤ ((p * q).den : Int) by omega), Bool.true_and]
  have a1 : 0 ≤ p.num / (Int.gcd p.num (q.den : Int)) ∧ p.num / (Int.gcd p.num (q.den : Int)) ≤ p.num := ⟨Int.ediv_nonneg p0 (by omega), Int.ediv_le_self _ p0⟩
  have a2 : 0 ≤ q.num / (Int.gcd q.num (p.den : Int)) ∧ q.num / (Int.gcd q.num (p.den : Int)) ≤ q.num := ⟨Int.ediv_nonneg q0 (by omega), Int.ediv_le_self _ q0⟩
  have a3 : 0 ≤ (p.den : Int) / (Int.gcd q.num (p.den : Int)) ∧ (p.den : Int) / (Int.gcd q.num (p.den : Int)) ≤ p.den := ⟨Int.ediv_nonneg (by omega) (by omega), Int.ediv_le_self _ (by omega)⟩
  have a4 : 0 ≤ (q.den : Int) / (Int.gcd p.num (q.den : Int)) ∧ (q.den : Int) / (Int.gcd p.num (q.den : Int)) ≤ q.den := ⟨Int.ediv_nonneg (by omega) (by omega), Int.ediv_le_self _ (by omega)⟩
  show AC _ _ [F2 (p.num, (p.den : Int)), F2 (q.num, (q.den : Int))] _
  have hf2 : inR (p * q).num (-1000000000) 1000000000 = decide ((p * q).num ≤ 1000000000) := by
    unfold inR
    have := Int.mul_nonneg a1.1 a2.1
    rw [decide_eq_true (show (-1000000000 : Int) ≤ (p * q).num by omega), Bool.true_and]
  rw [hf1, hf2]
  show AC _ _ _ (.tuple [F2 (bif decide ((p * q).num ≤ 1000000000) && decide (((p * q).den : Int) ≤ 1000000000) then (((p * q).num, ((p * q).den : Int)), (0 : Int)) else ((0, 0), 8)).1, I (bif decide ((p * q).num ≤ 1000000000) && decide (((p * q).den : Int) ≤ 1000000000) then (((p * q).num, ((p * q).den : Int)), (0 : Int)) else ((0, 0), 8)).2])
  rw [hn, hd]
  clear hn hd hf1 hf2 e1 e2 hpd
  obtain ⟨G, hG⟩ : ∃ G : Int, G = (Int.gcd p.num (q.den : Int) : Int) := ⟨_, rfl⟩
  obtain ⟨H, hH⟩ : ∃ H : Int, H = (Int.gcd q.num (p.den : Int) : Int) := ⟨_, rfl⟩
  rw [← hG] at w1 a1 a4 ⊢
  rw [← hH] at w2 a2 a3 ⊢
  have G0 : 0 < G := by omega
  have H0 : 0 < H := by omega
  have hs : ∀ a b : Int, 0 ≤ a → a ≤ 1000000000000000000 → 0 ≤ b → b ≤ 1000000000000000000 → ∃ n, AC Tryz.prog 129 [I a, I b] (.tuple [I n, B (decide (a * b ≤ 1000000000))]) ∧ (a * b ≤ 1000000000 → n = a * b) := fun a b h1 h2 h3 h4 => by
    obtain ⟨x, rfl⟩ := Int.eq_ofNat_of_zero_le h1
    obtain ⟨y, rfl⟩ := Int.eq_ofNat_of_zero_le h3
    by_cases h : x * y ≤ 1000000000
    · have := small_ok x y (by omega) (by omega) h
      refine ⟨_, ?_, fun _ => Int.natCast_mul x y⟩
      rw [decide_eq_true (show ((x : Nat) : Int) * (y : Nat) ≤ 1000000000 by rw [← Int.natCast_mul]; omega)]
      exact this
    · obtain ⟨n, hn⟩ := small_no x y (by omega) (by omega) (by omega)
      have h5 : ¬ ((x : Nat) : Int) * (y : Nat) ≤ 1000000000 := by rw [← Int.natCast_mul]; omega
      refine ⟨n, ?_, fun h6 => absurd h6 h5⟩
      rw [decide_eq_false h5]
      exact hn
  obtain ⟨n1, w3, k1⟩ := hs (p.num / G) (q.num / H) a1.1 (by omega) a2.1 (by omega)
  obtain ⟨n2, w4, k2⟩ := hs ((p.den : Int) / H) ((q.den : Int) / G) a3.1 (by omega) a4.1 (by omega)
  clear hs a1 a2 a3 a4 g1 g2 hG hH
  by_cases c1 : p.num / G * (q.num / H) ≤ 1000000000
  · rw [decide_eq_true c1] at w3 ⊢
    have k1 := k1 c1
    subst k1
    by_cases c2 : (p.den : Int) / H * ((q.den : Int) / G) ≤ 1000000000
    · rw [decide_eq_true c2] at w4 ⊢
      have k2 := k2 c2
      subst k2
      refine ac_body Tryz.func88 rfl (by kernel_rfl) fun w0 ok => ?_; show AWp _ (ctx0 w0 ok _) _ (ARet _ _ _) (entry _)
      exact zF
    · rw [decide_eq_false c2] at w4 ⊢
      refine ac_body Tryz.func88 rfl (by kernel_rfl) fun w0 ok => ?_; show AWp _ (ctx0 w0 ok _) _ (ARet _ _ _) (entry _)
      exact zF
  · rw [decide_eq_false c1] at w3 ⊢
    refine ac_body Tryz.func88 rfl (by kernel_rfl) fun w0 ok => ?_; show AWp _ (ctx0 w0 ok _) _ (ARet _ _ _) (entry _)
    exact zF

end Go.Proofs.YtiabcffcbhlbiaaGreat
