/- Merged: XDk XDl. -/
import Derived.Test.YtfcfmpdpjmbcnaaGreatDoorEm
import Derived.Test.YtfcfmpdpjmbcnaaGreatDoorSff
set_option linter.unusedVariables false
set_option linter.unusedSimpArgs false
/- The states of a growth, times a denominator, are whole (chapter 5). Nothing of the program. -/
namespace Go.Proofs.YtfcfmpdpjmbcnaaGreatDoor
open Go.RowKit
set_option maxRecDepth 20000

def stpW (den : Int) (r : List Int) (l : Nat) (st : List Wd) : List Wd := ovW (smW r st r.length) den.toNat :: st.take (l - 1)
def wsF (den : Int) (cs : List (List Int)) (x : List Int) (T : Nat) : Nat → List Wd
  | 0 => x.map fun n => ofW (n * den ^ T)
  | t + 1 => stpW den (cs.getD t []) x.length (wsF den cs x T t)
theorem wsF_len (den : Int) (cs : List (List Int)) (x : List Int) (T : Nat) (h : 0 < x.length) : ∀ t, (wsF den cs x T t).length = x.length
  | 0 => by unfold wsF; rw [List.length_map]
  | t + 1 => by
    show (stpW den (cs.getD t []) x.length (wsF den cs x T t)).length = _
    unfold stpW
    rw [List.length_cons, List.length_take, wsF_len den cs x T h t]
    omega
theorem smW_val {D : Int} {den : Int} {cs : List Int} {st : List Wd} {q : List Rat} (hd : den ≠ 0) {n : Nat} (hs : ∀ i, i < n → ((wvl (st.getD i wd0) : Int) : Rat) = q.getD i 0 * (D : Rat)) : ∀ i, i ≤ n → ((wvl (smW cs st i) : Int) : Rat) = tkS den cs 0 q i * ((D * den : Int) : Rat)
  | 0, _ => by
    show ((0 : Int) : Rat) = ((0 : Int) : Rat) * _
    rw [show ((0 : Int) : Rat) = 0 from rfl, Rat.zero_mul]
  | i + 1, hi => by
    have h1 := smW_val (cs := cs) hd hs i (by omega)
    have h2 := hs i (by omega)
    have h3 := divInt_mul_cast (nth cs i) hd
    show ((wvl (plW (smW cs st i) (byW (st.getD i wd0) (nth cs i))) : Int) : Rat) = (tkS den cs 0 q i + Rat.divInt (nth cs i) den * q.getD i 0) * ((D * den : Int) : Rat)
    rw [wvl_pl, wvl_by, Rat.intCast_add, Rat.intCast_mul, h1, h2, ← h3, Rat.intCast_mul]
    grind
structure WsOk (D : Int) (st : List Wd) (q : List Rat) (l K : Nat) : Prop where
  len : st.length = l
  v : ∀ i, i < l → ((wvl (st.getD i wd0) : Int) : Rat) = q.getD i 0 * (D : Rat)
  k : ∀ i, (st.getD i wd0).1 ≤ K
theorem kW {t T : Nat} (h : t ≤ T) (hT : T ≤ 8) : bB t * 10 ^ (T - t) ≤ 100000000000000000000000 := by
  have h1 := bB8 (t := t) (by omega)
  have h2 : 10 ^ (T - t) ≤ 10 ^ 8 := Nat.pow_le_pow_right (by decide) (by omega)
  exact Nat.le_trans (Nat.mul_le_mul h1 h2) (by decide)
theorem getD_big {st : List Wd} {i : Nat} (h : ¬ i < st.length) : st.getD i wd0 = wd0 := by
  rw [List.getD_eq_getElem?_getD, List.getElem?_eq_none (by omega)]; rfl
theorem ovT {den : Int} (hd : 1 ≤ den ∧ den ≤ 10) {t T K : Nat} {r : Rat} (ht : t ≤ T) (h : Ov (den ^ t) K r) : Ov (den ^ T) (K * 10 ^ (T - t)) r := by
  have h1 := h.upk hd (T - t)
  rw [← Int.pow_add, show t + (T - t) = T by omega] at h1
  exact h1
theorem wsF_ok {den : Int} {cs : List (List Int)} {x : List Int} (hd : 1 ≤ den ∧ den ≤ 10) (hx : ∀ i, (nth x i).natAbs ≤ 100) (l1 : 1 ≤ x.length) (h3 : x.length ≤ 3) (hc : CfOk x.length cs) (hT : cs.length ≤ 8) {dz : List Int} (hz : ∀ t, nth dz t = 0) : ∀ t, t ≤ cs.length → WsOk (den ^ cs.length) (wsF den cs x cs.length t) (hst den cs dz x t) x.length 100000000000000000000000 := by
  have hov := fun t ht => hst_ov (dz := dz) hd hx (fun t => by rw [hz]; decide) h3 hc t ht
  have hvl := fun t ht => vlt_ov (dz := dz) hd hx (fun t => by rw [hz]; decide) h3 hc (t := t) ht
  have hlen := wsF_len den cs x cs.length l1
  have hk : ∀ t, t ≤ cs.length → (∀ i, i < x.length → ((wvl ((wsF den cs x cs.length t).getD i wd0) : Int) : Rat) = (hst den cs dz x t).getD i 0 * ((den ^ cs.length : Int) : Rat)) → ∀ i, ((wsF den cs x cs.length t).getD i wd0).1 ≤ 100000000000000000000000 := fun t ht hv i => by
    by_cases hi : i < x.length
    · obtain ⟨N, e1, e2⟩ := ovT hd ht (hov t ht i)
      have h1 := hv i hi
      rw [e1] at h1
      have h2 : wvl ((wsF den cs x cs.length t).getD i wd0) = N := by exact_mod_cast h1
      have h3 := wvl_abs ((wsF den cs x cs.length t).getD i wd0)
      rw [h2] at h3
      have := kW ht hT
      omega
    · rw [getD_big (by rw [hlen]; exact hi)]
      exact Nat.zero_le _
  intro t
  induction t with
  | zero =>
    intro _
    have hv : ∀ i, i < x.length → ((wvl ((wsF den cs x cs.length 0).getD i wd0) : Int) : Rat) = (hst den cs dz x 0).getD i 0 * ((den ^ cs.length : Int) : Rat) := fun i hi => by
      have e1 : (wsF den cs x cs.length 0).getD i wd0 = ofW (nth x i * den ^ cs.length) := by
        unfold wsF nth
        rw [List.getD_eq_getElem?_getD, List.getD_eq_getElem?_getD, List.getElem?_map, List.getElem?_eq_getElem hi]; rfl
      have e2 : (hst den cs dz x 0).getD i 0 = ((nth x i : Int) : Rat) := by
        unfold hst nth
        rw [List.getD_eq_getElem?_getD, List.getD_eq_getElem?_getD, List.getElem?_map, List.getElem?_eq_getElem hi]; rfl
      rw [e1, e2, wvl_of, Rat.intCast_mul]
    exact ⟨hlen 0, hv, hk 0 (Nat.zero_le _) hv⟩
  | succ t ih =>
    intro ht
    obtain ⟨g1, g2, g3⟩ := ih (by omega)
    have hrl := hc.l t (by omega)
    have hcb := fun i => hc.b t i
    have hs := smW_val (den := den) (cs := cs.getD t []) (show den ≠ 0 by omega) g2 (cs.getD t []).length (by omega)
    have e0 : tkS den (cs.getD t []) 0 (hst den cs dz x t) (cs.getD t []).length = vlt den cs dz x t := by unfold vlt; rw [hz t]
    rw [e0] at hs
    obtain ⟨N, n1, _⟩ := ovT hd (T := cs.length) ht (hvl t (by omega))
    have hN : wvl (smW (cs.getD t []) (wsF den cs x cs.length t) (cs.getD t []).length) = N * (den.toNat : Int) := by
      have e : ((wvl (smW (cs.getD t []) (wsF den cs x cs.length t) (cs.getD t []).length) : Int) : Rat) = ((N * (den.toNat : Int) : Int) : Rat) := by
        rw [hs, show (den.toNat : Int) = den by omega, Rat.intCast_mul, Rat.intCast_mul, ← n1]
        grind
      exact_mod_cast e
    have ho := wvl_ov (show 0 < den.toNat by omega) hN
    have hv : ∀ i, i < x.length → ((wvl ((wsF den cs x cs.length (t + 1)).getD i wd0) : Int) : Rat) = (hst den cs dz x (t + 1)).getD i 0 * ((den ^ cs.length : Int) : Rat) := fun i hi => by
      rcases i with _ | i
      · show ((wvl (ovW (smW (cs.getD t []) (wsF den cs x cs.length t) (cs.getD t []).length) den.toNat) : Int) : Rat) = vlt den cs dz x t * _
        rw [ho, n1]
      · have e1 : (wsF den cs x cs.length (t + 1)).getD (i + 1) wd0 = (wsF den cs x cs.length t).getD i wd0 := by
          show ((wsF den cs x cs.length t).take (x.length - 1)).getD i wd0 = _
          rw [List.getD_eq_getElem?_getD, List.getElem?_take, if_pos (by omega), ← List.getD_eq_getElem?_getD]
        rw [e1]
        exact g2 i (by omega)
    exact ⟨hlen (t + 1), hv, hk (t + 1) ht hv⟩

end Go.Proofs.YtfcfmpdpjmbcnaaGreatDoor

/- The factor of a growth (chapter 5), by whole numbers and by ratios. Nothing of the program. -/
namespace Go.Proofs.YtfcfmpdpjmbcnaaGreatDoor
open Go.RowKit
set_option maxRecDepth 20000

def gcW (X : Wd) (n : Int) : Nat := Nat.gcd n.natAbs (X.1 % n.natAbs)
def nmW (X : Wd) (n : Int) : Int := bif X.2 != decide (n < 0) then -((X.1 / gcW X n : Nat) : Int) else ((X.1 / gcW X n : Nat) : Int)
def fcW (X : Wd) (n : Int) : Fr × Int := bif decide (X.1 < n.natAbs) then ((0, 0), 19) else bif decide (1000000000 < X.1 / gcW X n) || decide (1000000000 < n.natAbs / gcW X n) then ((0, 0), 8) else ((nmW X n, ((n.natAbs / gcW X n : Nat) : Int)), 0)
theorem gcW_eq (X : Wd) (n : Int) : gcW X n = Nat.gcd X.1 n.natAbs := by
  unfold gcW
  rw [Nat.gcd_comm, ← Nat.gcd_rec, Nat.gcd_comm]
theorem gcW_pos (X : Wd) {n : Int} (hn : n ≠ 0) : 0 < gcW X n := by
  rw [gcW_eq]
  exact Nat.gcd_pos_of_pos_right _ (by omega)
theorem nm_div (m g : Nat) (h : g ∣ m) : -(m : Int) / (g : Int) = -((m / g : Nat) : Int) := by
  rw [Int.neg_ediv_of_dvd (Int.natCast_dvd_natCast.2 h), Int.natCast_ediv]
theorem fc_parts (X : Wd) {n : Int} (hn : n ≠ 0) : (Rat.divInt (wvl X) n).num = nmW X n ∧ ((Rat.divInt (wvl X) n).den : Int) = ((n.natAbs / gcW X n : Nat) : Int) := by
  have hg := gcW_eq X n
  have hdv : gcW X n ∣ X.1 := by rw [hg]; exact Nat.gcd_dvd_left _ _
  have hab := wvl_abs X
  unfold nmW
  by_cases h : n < 0
  · have e : Rat.divInt (wvl X) n = Rat.divInt (-wvl X) (-n) := (Rat.neg_divInt_neg (wvl X) n).symm
    obtain ⟨e1, e2⟩ := ratioMk_pos (-wvl X) (show 0 < -n by omega)
    have e3 : Int.gcd (-wvl X) (-n) = gcW X n := by
      rw [hg]
      show Nat.gcd (-wvl X).natAbs (-n).natAbs = _
      rw [Int.natAbs_neg, Int.natAbs_neg, hab]
    rw [e, e1, e2, e3, decide_eq_true h]
    refine ⟨?_, by rw [Int.natCast_ediv]; congr 1; omega⟩
    obtain ⟨m, s⟩ := X
    cases s
    · exact nm_div m _ hdv
    · show -(-(m : Int)) / _ = ((m / _ : Nat) : Int)
      rw [Int.neg_neg, Int.natCast_ediv]
  · obtain ⟨e1, e2⟩ := ratioMk_pos (wvl X) (show 0 < n by omega)
    have e3 : Int.gcd (wvl X) n = gcW X n := by
      rw [hg]
      show Nat.gcd (wvl X).natAbs n.natAbs = _
      rw [hab]
    rw [e1, e2, e3, decide_eq_false h]
    refine ⟨?_, by rw [Int.natCast_ediv]; congr 1; omega⟩
    obtain ⟨m, s⟩ := X
    cases s
    · show (m : Int) / _ = ((m / _ : Nat) : Int)
      rw [Int.natCast_ediv]
    · exact nm_div m _ hdv
theorem fc_small (X : Wd) {n : Int} (hn : n ≠ 0) : smQ (Rat.divInt (wvl X) n) = !(decide (1000000000 < X.1 / gcW X n) || decide (1000000000 < n.natAbs / gcW X n)) := by
  obtain ⟨e1, e2⟩ := fc_parts X hn
  have hp := den_pos (Rat.divInt (wvl X) n)
  unfold smQ inR
  rw [e1, e2] at *
  unfold nmW
  generalize X.1 / gcW X n = a at *
  generalize n.natAbs / gcW X n = b at *
  rw [Bool.eq_iff_iff]
  cases (X.2 != decide (n < 0)) <;> simp <;> omega
theorem fcW_eq (X : Wd) {n : Int} (hn : n ≠ 0) : fcW X n = bif decide (X.1 < n.natAbs) then ((0, 0), 19) else frQ (Rat.divInt (wvl X) n) := by
  obtain ⟨e1, e2⟩ := fc_parts X hn
  unfold fcW frQ
  rw [fc_small X hn, e1, e2]
  cases decide (X.1 < n.natAbs) <;> cases (decide (1000000000 < X.1 / gcW X n) || decide (1000000000 < n.natAbs / gcW X n)) <;> rfl
theorem fc_less (X : Wd) {n : Int} (hn : n ≠ 0) : X.1 < n.natAbs ↔ Rat.divInt (wvl X) n * Rat.divInt (wvl X) n < 1 := by
  have hn0 := castNe hn
  have h1 := divInt_mul_cast (wvl X) hn
  have hp : (0 : Rat) < (n : Rat) * (n : Rat) := by
    rw [← Rat.intCast_mul]
    have : 0 < n * n := by
      rcases Int.lt_or_gt_of_ne hn with h | h
      · exact Int.mul_pos_of_neg_of_neg h h
      · exact Int.mul_pos h h
    exact_mod_cast this
  have hq : Rat.divInt (wvl X) n * Rat.divInt (wvl X) n * ((n : Rat) * (n : Rat)) = ((wvl X * wvl X : Int) : Rat) := by
    rw [Rat.intCast_mul, ← h1]; grind
  have hs : X.1 < n.natAbs ↔ wvl X * wvl X < n * n := by
    rw [← wvl_abs X, ← Int.natAbs_mul_self' (wvl X), ← Int.natAbs_mul_self' n, ← Int.natCast_mul, ← Int.natCast_mul, Int.ofNat_lt]
    exact Nat.mul_self_lt_mul_self_iff.symm
  rw [hs, ← Rat.mul_lt_mul_right hp, hq, Rat.one_mul, ← Rat.intCast_mul]
  exact (Rat.intCast_lt_intCast).symm
theorem fc_item {D : Int} (hD : D ≠ 0) {X Y : Wd} {q p : Rat} {m n : Int} (hX : ((wvl X : Int) : Rat) = q * (D : Rat)) (hY : ((wvl Y : Int) : Rat) = p * (D : Rat)) (hm : m ≠ 0) : eqW (byW Y m) (byW X n) = decide (p = q / (m : Rat) * (n : Rat)) := by
  have h1 := castNe hD
  have h2 := castNe hm
  rw [eqW_iff, wvl_by, wvl_by]
  rw [decide_eq_decide]
  have e : (wvl Y * m = wvl X * n) ↔ ((wvl Y : Int) : Rat) * (m : Rat) = ((wvl X : Int) : Rat) * (n : Rat) := by
    rw [← Rat.intCast_mul, ← Rat.intCast_mul]
    exact Rat.intCast_inj.symm
  rw [e, hX, hY]
  constructor
  · intro h
    grind
  · intro h
    rw [h]
    grind
theorem fc_ratio {D : Int} (hD : D ≠ 0) {X : Wd} {q : Rat} {m : Int} (hX : ((wvl X : Int) : Rat) = q * (D : Rat)) (hm : m ≠ 0) : Rat.divInt (wvl X) (m * D) = q / (m : Rat) := by
  have h1 := castNe hD
  have h2 := castNe hm
  rw [Rat.divInt_eq_div, hX, Rat.intCast_mul]
  grind
def nzAt (x : List Int) : Nat := (idxF (fun n => decide (n ≠ 0)) x 0).toNat
def gwQ (q : List Rat) (x : List Int) : Fr × Int := bif (List.range x.length).all (fun i => decide (q.getD i 0 = q.getD (nzAt x) 0 / ((nth x (nzAt x) : Int) : Rat) * ((nth x i : Int) : Rat))) then (bif decide (q.getD (nzAt x) 0 / ((nth x (nzAt x) : Int) : Rat) * (q.getD (nzAt x) 0 / ((nth x (nzAt x) : Int) : Rat)) < 1) then ((0, 0), 19) else frQ (q.getD (nzAt x) 0 / ((nth x (nzAt x) : Int) : Rat))) else ((0, 0), 19)
def gwW (st : List Wd) (x : List Int) (D : Int) : Fr × Int := bif (List.range x.length).all (fun i => eqW (byW (st.getD i wd0) (nth x (nzAt x))) (byW (st.getD (nzAt x) wd0) (nth x i))) then fcW (st.getD (nzAt x) wd0) (nth x (nzAt x) * D) else ((0, 0), 19)
theorem gwW_eq {D : Int} (hD : D ≠ 0) {st : List Wd} {q : List Rat} {x : List Int} {K : Nat} (h : WsOk D st q x.length K) (hz : nzAt x < x.length) (hm : nth x (nzAt x) ≠ 0) : gwW st x D = gwQ q x := by
  have hX := h.v (nzAt x) hz
  have hn : nth x (nzAt x) * D ≠ 0 := Int.mul_ne_zero hm hD
  have hr := fc_ratio hD hX hm
  have hl := fc_less (st.getD (nzAt x) wd0) hn
  rw [hr] at hl
  have he := fcW_eq (st.getD (nzAt x) wd0) hn
  rw [hr, show decide ((st.getD (nzAt x) wd0).1 < (nth x (nzAt x) * D).natAbs) = decide (q.getD (nzAt x) 0 / ((nth x (nzAt x) : Int) : Rat) * (q.getD (nzAt x) 0 / ((nth x (nzAt x) : Int) : Rat)) < 1) from decide_eq_decide.2 hl] at he
  unfold gwW gwQ
  rw [he]
  have ha : (List.range x.length).all (fun i => eqW (byW (st.getD i wd0) (nth x (nzAt x))) (byW (st.getD (nzAt x) wd0) (nth x i))) = (List.range x.length).all (fun i => decide (q.getD i 0 = q.getD (nzAt x) 0 / ((nth x (nzAt x) : Int) : Rat) * ((nth x i : Int) : Rat))) := by
    rw [Bool.eq_iff_iff, List.all_eq_true, List.all_eq_true]
    refine forall_congr' fun i => ?_
    constructor
    · intro g hi
      rw [← fc_item hD hX (h.v i (List.mem_range.1 hi)) hm]; exact g hi
    · intro g hi
      rw [fc_item hD hX (h.v i (List.mem_range.1 hi)) hm]; exact g hi
  rw [ha]

end Go.Proofs.YtfcfmpdpjmbcnaaGreatDoor
