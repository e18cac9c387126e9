/- Merged: XDs XDu. -/
import Derived.Test.YtfcfmpdpjmbcnaaGreatEr
import Derived.Test.YtfcfmpdpjmbcnaaGreatSk
import Derived.Test.YtfcfmpdpjmbcnaaGreatNf
import Derived.Test.YtfcfmpdpjmbcnaaGreatSd
set_option linter.unusedVariables false
set_option linter.unusedSimpArgs false
/- Growths, by the reference (chapter 5). -/
namespace Go.Proofs.YtfcfmpdpjmbcnaaGreat
open Go.RowKit
set_option maxRecDepth 20000
set_option maxHeartbeats 8000000

abbrev zrL (n : Nat) : List Int := lst (fun _ => 0) n
theorem zrL_int (n : Nat) : (zeros [Value.int .i64 0] (n * 1)).map DV.val = ivs (zrL n) := by
  rw [Nat.mul_one]
  unfold zeros ivs zrL lst
  rw [List.map_map, List.map_map]
  refine List.map_congr_left fun i _ => ?_
  show DV.val (([Value.int .i64 0] : List Value).getD (i % 1) undef) = _
  rw [Nat.mod_one]; rfl
theorem nth_zrL (n t : Nat) : nth (zrL n) t = 0 := by
  by_cases h : t < n
  · exact lst_nth _ h
  · exact nth_out (by rw [lst_length]; exact h)
/-- A growth's factor, by the reference. -/
def gqR (den : Int) (x : List Int) (cs : List (List Int)) : Fr × Int := bif decide (cs.length = 0) then ((0, 0), 10) else bif x.any (fun n => decide (n ≠ 0)) then gwQ (hst den cs (zrL cs.length) x cs.length) x else ((0, 0), 11)
theorem gqR_eq {c : List Rg} {den : Int} {x : List Int} {cs : List (List Int)} (h : GwOk c den x cs) : gqR den x cs = gwF den x cs := by
  have h0 := h.c0
  have hW := wsF_ok h.lo.d h.xb (by rw [h.xl]; exact h.lo.l1) (by rw [h.xl]; exact h.lo.l3) h.cf h.cl (dz := zrL cs.length) (nth_zrL cs.length) cs.length (Nat.le_refl _)
  obtain ⟨_, n2, n3⟩ := nz_ok h.nz
  have hD := pow_rng h.lo.d (t := cs.length) (by have := h.cl; omega)
  have e := gwW_eq (show den ^ cs.length ≠ 0 by omega) hW n2 n3
  unfold gqR gwF
  rw [decide_eq_false (show ¬ cs.length = 0 by omega), h.nz, e]
  rfl
theorem gwQ_no {q : List Rat} {x : List Int} {i : Nat} (hi : i < x.length) (h : ¬ q.getD i 0 = q.getD (nzAt x) 0 / ((nth x (nzAt x) : Int) : Rat) * ((nth x i : Int) : Rat)) : gwQ q x = ((0, 0), 19) := by
  unfold gwQ
  rw [show (List.range x.length).all (fun i => decide (q.getD i 0 = q.getD (nzAt x) 0 / ((nth x (nzAt x) : Int) : Rat) * ((nth x i : Int) : Rat))) = false from ?_]
  · rfl
  · rw [List.all_eq_false]
    exact ⟨i, List.mem_range.2 hi, by rw [decide_eq_false h]; decide⟩
theorem gwQ_yes {q : List Rat} {x : List Int} (h : ∀ i, i < x.length → q.getD i 0 = q.getD (nzAt x) 0 / ((nth x (nzAt x) : Int) : Rat) * ((nth x i : Int) : Rat)) : gwQ q x = bif decide (q.getD (nzAt x) 0 / ((nth x (nzAt x) : Int) : Rat) * (q.getD (nzAt x) 0 / ((nth x (nzAt x) : Int) : Rat)) < 1) then ((0, 0), 19) else frQ (q.getD (nzAt x) 0 / ((nth x (nzAt x) : Int) : Rat)) := by
  unfold gwQ
  rw [show (List.range x.length).all (fun i => decide (q.getD i 0 = q.getD (nzAt x) 0 / ((nth x (nzAt x) : Int) : Rat) * ((nth x i : Int) : Rat))) = true from List.all_eq_true.2 fun i hi => decide_eq_true (h i (List.mem_range.1 hi))]
  rfl
end Go.Proofs.YtfcfmpdpjmbcnaaGreat

/- What settles does not grow (chapter 5); the weighted size of a state. -/
namespace Go.Proofs.YtfcfmpdpjmbcnaaGreat
open Go.RowKit
set_option maxRecDepth 20000
set_option maxHeartbeats 8000000

theorem hst_stt {den : Int} {cs : List (List Int)} {dz x : List Int} {n : Nat} (hz : ∀ t, nth dz t = 0) (hl : ∀ t, t < cs.length → (cs.getD t []).length = n) : ∀ t, t ≤ cs.length → hst den cs dz x t = stt den (fun t => cs.getD t []) n (hst den cs dz x 0) t
  | 0, _ => rfl
  | t + 1, h => by
    have ih := hst_stt (den := den) (x := x) hz hl t (by omega)
    rw [hst_succ]
    unfold vlt
    rw [hz, hl t (by omega)]
    show _ = tkS den (cs.getD t []) 0 (stt den (fun t => cs.getD t []) n (hst den cs dz x 0) t) n :: stt den (fun t => cs.getD t []) n (hst den cs dz x 0) t
    rw [← ih]
theorem settle_le {c : List Rg} {den : Int} (hd : 1 ≤ den) {w : List Int} (hw : ∀ i, i < c.length → 1 ≤ nth w i) {cs : List (List Int)} (hcf : cfE c cs = 0) {dz x : List Int} (hz : ∀ t, nth dz t = 0) :
    wtR w (hst den cs dz x cs.length) c.length ≤ nrmR (powM c den c.length cs.length) w (den ^ cs.length) c.length c.length * wtR w (hst den cs dz x 0) c.length := by
  rw [hst_stt (n := c.length) hz (fun t ht => (cfE1_ok (cfE_ok hcf t ht)).1) cs.length (Nat.le_refl _)]
  exact stt_norm hd hw (fun t ht i hi => (cfE1_ok (cfE_ok hcf t ht)).2 i hi) _
theorem rlt1 {a b c : Rat} (h1 : a ≤ b) (h2 : b < c) : a < c := Rat.not_le.1 fun h => Rat.not_lt.2 (Rat.le_trans h h1) h2
theorem rlt2 {a b c : Rat} (h1 : a < b) (h2 : b ≤ c) : a < c := Rat.not_le.1 fun h => Rat.not_lt.2 (Rat.le_trans h2 h) h1
theorem absR_sq (r : Rat) : absR r * absR r = r * r := by
  unfold absR
  by_cases h : r < 0
  · rw [decide_eq_true h]; show -r * -r = _; grind
  · rw [decide_eq_false h]; rfl
theorem absR_one {r : Rat} (h : ¬ r * r < 1) : 1 ≤ absR r := by
  refine Rat.not_lt.1 fun hl => h ?_
  rw [← absR_sq]
  have h0 := absR_nonneg r
  generalize absR r = a at *
  have h1 : a * a ≤ 1 * a := Rat.mul_le_mul_of_nonneg_right (Rat.le_of_lt hl) h0
  rw [Rat.one_mul] at h1
  exact rlt1 h1 hl
theorem settle_no {w : List Int} {q p : List Rat} {x : List Int} {N : Rat} (hw : ∀ i, i < x.length → 1 ≤ nth w i) (hN : N < 1) (hN0 : 0 ≤ N) (hp : ∀ i, i < x.length → p.getD i 0 = ((nth x i : Int) : Rat)) (h : wtR w q x.length ≤ N * wtR w p x.length) (hz : nzAt x < x.length) (hm : nth x (nzAt x) ≠ 0) : gwQ q x = ((0, 0), 19) := by
  by_cases hall : ∀ i, i < x.length → q.getD i 0 = q.getD (nzAt x) 0 / ((nth x (nzAt x) : Int) : Rat) * ((nth x i : Int) : Rat)
  · rw [gwQ_yes hall]
    generalize q.getD (nzAt x) 0 / ((nth x (nzAt x) : Int) : Rat) = F at *
    by_cases hF : F * F < 1
    · rw [decide_eq_true hF]; rfl
    · exfalso
      have h1 := absR_one hF
      have hV0 := wtR_nonneg w p x.length
      have hV : wtR w p x.length ≤ N * wtR w p x.length := by
        refine wtR_lub w p (Rat.mul_nonneg hN0 hV0) x.length fun j hj => Rat.le_trans ?_ (Rat.le_trans (wtR_le w q hj) h)
        have hwj : (0 : Rat) < ((nth w j : Int) : Rat) := by exact_mod_cast (show (0 : Int) < nth w j by have := hw j hj; omega)
        rw [hp j hj, hall j hj, absR_mul]
        refine div_le_of hwj ?_
        have e : ((nth w j : Int) : Rat) * (absR F * absR ((nth x j : Int) : Rat) / ((nth w j : Int) : Rat)) = absR F * absR ((nth x j : Int) : Rat) := by
          generalize ((nth w j : Int) : Rat) = b at *
          have hb : b ≠ 0 := fun e => by rw [e] at hwj; exact absurd hwj (by decide)
          grind
        rw [e]
        have := Rat.mul_le_mul_of_nonneg_right h1 (absR_nonneg ((nth x j : Int) : Rat))
        rwa [Rat.one_mul] at this
      have hwz : (0 : Rat) < ((nth w (nzAt x) : Int) : Rat) := by exact_mod_cast (show (0 : Int) < nth w (nzAt x) by have := hw _ hz; omega)
      have h3 := wtR_le w p hz
      rw [hp _ hz, absR_int] at h3
      have h4 : (0 : Rat) < (((nth x (nzAt x)).natAbs : Int) : Rat) := by exact_mod_cast (show (0 : Int) < ((nth x (nzAt x)).natAbs : Int) by omega)
      have hpos : 0 < wtR w p x.length := by
        refine rlt2 (Rat.not_le.1 fun hle => ?_) h3
        have h5 := le_mul_of_div hwz hle
        rw [Rat.mul_zero] at h5
        exact Rat.not_lt.2 h5 h4
      have h6 := (Rat.mul_lt_mul_right hpos).2 hN
      rw [Rat.one_mul] at h6
      exact Rat.not_lt.2 hV h6
  · have hex : ∃ i, i < x.length ∧ ¬ q.getD i 0 = q.getD (nzAt x) 0 / ((nth x (nzAt x) : Int) : Rat) * ((nth x i : Int) : Rat) := by
      refine Classical.byContradiction fun hn => hall fun i hi => Classical.byContradiction fun h => hn ⟨i, hi, h⟩
    obtain ⟨i, hi, hn⟩ := hex
    exact gwQ_no hi hn
theorem gwtR_S {w : List Int} {st : List Rat} : ∀ {i : Nat}, (∀ j, j < i → RatS 6 (absR (st.getD j 0) / ((nth w j : Int) : Rat))) → RatS 6 (wtR w st i)
  | 0, _ => ((int_ratS (n := 0) (by decide) : RatS 3 ((0 : Int) : Rat))).mono (by decide)
  | i + 1, h => by
    unfold wtR
    cases decide (wtR w st i < absR (st.getD i 0) / ((nth w i : Int) : Rat))
    · exact gwtR_S fun j hj => h j (by omega)
    · exact h i (by omega)
theorem absR_S {k : Nat} {r : Rat} (h : RatS k r) : RatS k (absR r) := by
  unfold absR
  cases decide (r < 0)
  · exact h
  · exact h.neg
theorem sign_lt (r : Rat) : r.num.sign < 0 ↔ r < 0 := by
  by_cases h : r < 0
  · have hs : r.num.sign = -1 := Int.sign_eq_neg_one_of_neg (Int.not_le.1 fun h2 => absurd h (Rat.not_lt.2 (Rat.num_nonneg.1 h2)))
    exact ⟨fun _ => h, fun _ => by rw [hs]; decide⟩
  · have hs : 0 ≤ r.num.sign := by
      have := Rat.num_nonneg.2 (Rat.not_lt.1 h)
      rcases Int.lt_or_eq_of_le this with h2 | h2
      · rw [Int.sign_eq_one_of_pos h2]; decide
      · rw [← h2]; decide
    exact ⟨fun h2 => by omega, fun h2 => absurd h2 h⟩
theorem weighted_A (L : List Rat) (w : List Int) (q : List Rat) (m : Nat) (hm : L.length = m) (hm2 : m ≤ 1000000) (hl : w.length ≤ m) (hq : ∀ i, i < w.length → L.getD (m - 1 - i) 0 = q.getD i 0) (hS : ∀ i, RatS 3 (q.getD i 0)) (hw : ∀ i, i < w.length → 1 ≤ nth w i ∧ nth w i ≤ 10) :
    AC Tryz.prog 21 [.slice m (raS L), isl w] (ratV (wtR w q w.length)) := by
  have hd : ∀ i, i < w.length → RatS 6 (absR (q.getD i 0) / ((nth w i : Int) : Rat)) := fun i hi => by
    have h1 := hw i hi
    exact (absR_S (hS i)).div (int_ratS (by omega)) (castNe (by omega))
  have hwt : ∀ i, i ≤ w.length → RatS 6 (wtR w q i) := fun i hi => gwtR_S fun j hj => hd j (by omega)
  have wz : AC Tryz.prog 49 [.val (.int .i64 0)] (ratV (wtR w q 0)) := ratioInt_A 0 ⟨by decide, by decide⟩
  refine ac_body Tryz.func21 rfl (by kernel_rfl) fun w0 ok => ?_; show AWp _ (ctx0 w0 ok _) _ (ARet _ _ _) (entry _)
  (repeat' (first | (with_reducible first | intro hg | refine mv (by constructor) ?_) | ((with_reducible first | refine zR ?_ ?_ | refine zW mixed ?_ ?_); exact kr) | ((with_reducible apply zK); exact rfl; exact tf) | ((with_reducible apply zCD); exact rfl) | ((with_reducible apply zCN); exact rfl) | ((with_reducible apply zC); exact rfl) | ((with_reducible refine zX ?_ ?_); exact rfl) | ((with_reducible refine zE (And.intro ?_ ?_)); exact kr) | (with_reducible refine zE ?_) | ((with_reducible apply zP); (first | exact dp | exact oc rfl (wz))) | ((with_reducible apply zN); exact dn) | ((with_reducible apply zA); exact da) | ((with_reducible apply zS); exact ds) | ((with_reducible apply zY); exact rfl; exact rfl; exact tf) | ((with_reducible apply zG); exact rfl; exact rfl; exact tf) | ((with_reducible apply zU); exact rfl; exact rfl) | ((with_reducible apply zD); exact rfl; exact rfl) | ((with_reducible apply zB); exact rfl; exact rfl)))
  clear wz
  refine awp_loopL (α := Nat) (fun i => [(0, .d (.slice m (raS L))), (1, .d (isl w)), (4, .ptr 4 0), (5, .ptr 5 0), (6, .d (I i))]) (fun i => [(4, ⟨57, [I 0, nilV, I 0, nilV]⟩), (5, ⟨57, ratC (wtR w q i)⟩)]) (fun i => i ≤ w.length) (fun i => w.length - i) 0 (Nat.zero_le _) (And.intro rfl (And.intro rfl (And.intro rfl (And.intro rfl (And.intro rfl trivial))))) (And.intro rfl (And.intro rfl trivial)) fun i hi => ?_
  by_cases hil : i < w.length
  rotate_left
  · obtain rfl : i = w.length := by omega
    (repeat' (first | (with_reducible first | intro hg | refine mv (by constructor) ?_) | ((with_reducible first | refine zR ?_ ?_ | refine zW mixed ?_ ?_); exact kr) | ((with_reducible apply zK); exact rfl; exact tf) | ((with_reducible apply zCD); exact rfl) | ((with_reducible apply zCN); exact rfl) | ((with_reducible apply zC); exact rfl) | ((with_reducible refine zX ?_ ?_); exact rfl) | ((with_reducible refine zE (And.intro ?_ ?_)); exact kr) | (with_reducible refine zE ?_) | ((with_reducible apply zP); exact dp) | ((with_reducible apply zN); exact dn) | ((with_reducible apply zA); exact da) | ((with_reducible apply zS); exact ds) | ((with_reducible apply zY); exact rfl; exact rfl; exact tf) | ((with_reducible apply zG); exact rfl; exact rfl; exact tf) | ((with_reducible apply zU); exact rfl; exact rfl) | ((with_reducible apply zD); exact rfl; exact rfl) | ((with_reducible apply zB); exact rfl; exact rfl)))
    ((with_reducible first | apply q_retR | apply q_retN); exact rl)
    rfl
  have h1 := hw i hil
  have hqi := hq i hil
  obtain ⟨mi, hmi⟩ : ∃ k, k = m - 1 - i := ⟨_, rfl⟩
  rw [← hmi] at hqi
  have hmi2 : (m : Int) - 1 - (i : Int) = (mi : Int) := by omega
  have hmil : mi < m := by omega
  have wi := ratioInt_A (nth w i) ⟨by omega, by omega⟩
  have hj0 : ((nth w i : Int) : Rat) ≠ 0 := castNe (by omega)
  have ws := ratioSign_A (q.getD i 0)
  have wn := ratioNeg_A (q.getD i 0)
  have wd := ratioDiv_A ((absR_S (hS i)).mono (show 3 ≤ 10000 by decide)) ((int_ratS (show (nth w i).natAbs ≤ 1000000000000000000 by omega)).mono (show 3 ≤ 10000 by decide)) hj0
  have wc := ratioCmp_A ((hd i hil).mono (show 6 ≤ 10000 by decide)) ((hwt i hi).mono (show 6 ≤ 10000 by decide))
  have hz := @cmpR_pos (absR (q.getD i 0) / ((nth w i : Int) : Rat)) (wtR w q i)
  have hcb := cmpR_bnd (absR (q.getD i 0) / ((nth w i : Int) : Rat)) (wtR w q i)
  have hsl := sign_lt (q.getD i 0)
  have hsb := sign_bnd (q.getD i 0).num
  have hnx : wtR w q (i + 1) = bif decide (wtR w q i < absR (q.getD i 0) / ((nth w i : Int) : Rat)) then absR (q.getD i 0) / ((nth w i : Int) : Rat) else wtR w q i := rfl
  have hab : absR (q.getD i 0) = bif decide (q.getD i 0 < 0) then -(q.getD i 0) else q.getD i 0 := rfl
  have hmm : w.length - (i + 1) < w.length - i := by omega
  rw [← hqi] at ws wn wd wc hz hcb hsl hsb hnx hab
  clear hw hq hS hd hwt hqi hj0 hmi h1
  generalize wtR w q i = V at *
  by_cases hneg : L.getD mi 0 < 0
  · rw [decide_eq_true hneg] at hab
    have hab : absR (L.getD mi 0) = -(L.getD mi 0) := hab
    have hsl := hsl.2 hneg
    rw [hab] at wd wc hz hcb hnx
    by_cases hV : V < -(L.getD mi 0) / ((nth w i : Int) : Rat)
    · rw [decide_eq_true hV] at hnx
      have hnx : wtR w q (i + 1) = -(L.getD mi 0) / ((nth w i : Int) : Rat) := hnx
      have hz := hz.2 hV
      generalize cmpR (-(L.getD mi 0) / ((nth w i : Int) : Rat)) V = cr at *
      clear hneg hV hab hcb
      (repeat' (first | (with_reducible first | intro hg | refine mv (by constructor) ?_) | ((with_reducible first | refine zR ?_ ?_ | refine zW mixed ?_ ?_); exact kr) | ((with_reducible apply zK); exact rfl; exact tf) | ((with_reducible apply zCD); exact rfl) | ((with_reducible apply zCN); exact rfl) | ((with_reducible apply zC); exact rfl) | ((with_reducible refine zX ?_ ?_); exact rfl) | ((with_reducible refine zE (And.intro ?_ ?_)); exact kr) | (with_reducible refine zE ?_) | ((with_reducible apply zP); (first | exact o_indexF (0 : Rat) (j := mi) (xs := L) ratC_len (by decide) rfl (congrArg (fun n : Int => AV.d (I n)) hmi2) hmil hm.symm | exact o_indexI (xs := w) (j := i) rfl rfl hil rfl | exact dp | exact oc rfl (wi) | exact oc rfl (ws) | exact oc rfl (wn) | exact oc rfl (wd) | exact oc rfl (wc))) | ((with_reducible apply zN); exact dn) | ((with_reducible apply zA); exact da) | ((with_reducible apply zS); exact ds) | ((with_reducible apply zY); exact rfl; exact rfl; exact tf) | ((with_reducible apply zG); exact rfl; exact rfl; exact tf) | ((with_reducible apply zU); exact rfl; exact rfl) | ((with_reducible apply zD); exact rfl; exact rfl) | ((with_reducible apply zB); exact rfl; exact rfl)))
      exact ⟨i + 1, hil, hmm, (And.intro rfl (And.intro rfl (And.intro rfl (And.intro rfl (And.intro rfl trivial))))), (And.intro rfl (And.intro (congrArg (fun r => some (Blk.mk _ (ratC r))) hnx.symm) trivial))⟩
    · rw [decide_eq_false hV] at hnx
      have hnx : wtR w q (i + 1) = V := hnx
      have hz := fun h => hV (hz.1 h)
      generalize cmpR (-(L.getD mi 0) / ((nth w i : Int) : Rat)) V = cr at *
      clear hneg hV hab
      have hz : ¬ 0 < cr := hz
      (repeat' (first | (with_reducible first | intro hg | refine mv (by constructor) ?_) | ((with_reducible first | refine zR ?_ ?_ | refine zW mixed ?_ ?_); exact kr) | ((with_reducible apply zK); exact rfl; exact tf) | ((with_reducible apply zCD); exact rfl) | ((with_reducible apply zCN); exact rfl) | ((with_reducible apply zC); exact rfl) | ((with_reducible refine zX ?_ ?_); exact rfl) | ((with_reducible refine zE (And.intro ?_ ?_)); exact kr) | (with_reducible refine zE ?_) | ((with_reducible apply zP); (first | exact o_indexF (0 : Rat) (j := mi) (xs := L) ratC_len (by decide) rfl (congrArg (fun n : Int => AV.d (I n)) hmi2) hmil hm.symm | exact o_indexI (xs := w) (j := i) rfl rfl hil rfl | exact dp | exact oc rfl (wi) | exact oc rfl (ws) | exact oc rfl (wn) | exact oc rfl (wd) | exact oc rfl (wc))) | ((with_reducible apply zN); exact dn) | ((with_reducible apply zA); exact da) | ((with_reducible apply zS); exact ds) | ((with_reducible apply zY); exact rfl; exact rfl; exact tf) | ((with_reducible apply zG); exact rfl; exact rfl; exact tf) | ((with_reducible apply zU); exact rfl; exact rfl) | ((with_reducible apply zD); exact rfl; exact rfl) | ((with_reducible apply zB); exact rfl; exact rfl)))
      exact ⟨i + 1, hil, hmm, (And.intro rfl (And.intro rfl (And.intro rfl (And.intro rfl (And.intro rfl trivial))))), (And.intro rfl (And.intro (congrArg (fun r => some (Blk.mk _ (ratC r))) hnx.symm) trivial))⟩
  · rw [decide_eq_false hneg] at hab
    have hab : absR (L.getD mi 0) = L.getD mi 0 := hab
    have hsl : ¬ (L.getD mi 0).num.sign < 0 := fun h => hneg (hsl.1 h)
    rw [hab] at wd wc hz hcb hnx
    by_cases hV : V < L.getD mi 0 / ((nth w i : Int) : Rat)
    · rw [decide_eq_true hV] at hnx
      have hnx : wtR w q (i + 1) = L.getD mi 0 / ((nth w i : Int) : Rat) := hnx
      have hz := hz.2 hV
      generalize cmpR (L.getD mi 0 / ((nth w i : Int) : Rat)) V = cr at *
      clear hneg hV hab hcb
      (repeat' (first | (with_reducible first | intro hg | refine mv (by constructor) ?_) | ((with_reducible first | refine zR ?_ ?_ | refine zW mixed ?_ ?_); exact kr) | ((with_reducible apply zK); exact rfl; exact tf) | ((with_reducible apply zCD); exact rfl) | ((with_reducible apply zCN); exact rfl) | ((with_reducible apply zC); exact rfl) | ((with_reducible refine zX ?_ ?_); exact rfl) | ((with_reducible refine zE (And.intro ?_ ?_)); exact kr) | (with_reducible refine zE ?_) | ((with_reducible apply zP); (first | exact o_indexF (0 : Rat) (j := mi) (xs := L) ratC_len (by decide) rfl (congrArg (fun n : Int => AV.d (I n)) hmi2) hmil hm.symm | exact o_indexI (xs := w) (j := i) rfl rfl hil rfl | exact dp | exact oc rfl (wi) | exact oc rfl (ws) | exact oc rfl (wn) | exact oc rfl (wd) | exact oc rfl (wc))) | ((with_reducible apply zN); exact dn) | ((with_reducible apply zA); exact da) | ((with_reducible apply zS); exact ds) | ((with_reducible apply zY); exact rfl; exact rfl; exact tf) | ((with_reducible apply zG); exact rfl; exact rfl; exact tf) | ((with_reducible apply zU); exact rfl; exact rfl) | ((with_reducible apply zD); exact rfl; exact rfl) | ((with_reducible apply zB); exact rfl; exact rfl)))
      exact ⟨i + 1, hil, hmm, (And.intro rfl (And.intro rfl (And.intro rfl (And.intro rfl (And.intro rfl trivial))))), (And.intro rfl (And.intro (congrArg (fun r => some (Blk.mk _ (ratC r))) hnx.symm) trivial))⟩
    · rw [decide_eq_false hV] at hnx
      have hnx : wtR w q (i + 1) = V := hnx
      have hz := fun h => hV (hz.1 h)
      generalize cmpR (L.getD mi 0 / ((nth w i : Int) : Rat)) V = cr at *
      clear hneg hV hab
      have hz : ¬ 0 < cr := hz
      (repeat' (first | (with_reducible first | intro hg | refine mv (by constructor) ?_) | ((with_reducible first | refine zR ?_ ?_ | refine zW mixed ?_ ?_); exact kr) | ((with_reducible apply zK); exact rfl; exact tf) | ((with_reducible apply zCD); exact rfl) | ((with_reducible apply zCN); exact rfl) | ((with_reducible apply zC); exact rfl) | ((with_reducible refine zX ?_ ?_); exact rfl) | ((with_reducible refine zE (And.intro ?_ ?_)); exact kr) | (with_reducible refine zE ?_) | ((with_reducible apply zP); (first | exact o_indexF (0 : Rat) (j := mi) (xs := L) ratC_len (by decide) rfl (congrArg (fun n : Int => AV.d (I n)) hmi2) hmil hm.symm | exact o_indexI (xs := w) (j := i) rfl rfl hil rfl | exact dp | exact oc rfl (wi) | exact oc rfl (ws) | exact oc rfl (wn) | exact oc rfl (wd) | exact oc rfl (wc))) | ((with_reducible apply zN); exact dn) | ((with_reducible apply zA); exact da) | ((with_reducible apply zS); exact ds) | ((with_reducible apply zY); exact rfl; exact rfl; exact tf) | ((with_reducible apply zG); exact rfl; exact rfl; exact tf) | ((with_reducible apply zU); exact rfl; exact rfl) | ((with_reducible apply zD); exact rfl; exact rfl) | ((with_reducible apply zB); exact rfl; exact rfl)))
      exact ⟨i + 1, hil, hmm, (And.intro rfl (And.intro rfl (And.intro rfl (And.intro rfl (And.intro rfl trivial))))), (And.intro rfl (And.intro (congrArg (fun r => some (Blk.mk _ (ratC r))) hnx.symm) trivial))⟩

end Go.Proofs.YtfcfmpdpjmbcnaaGreat
