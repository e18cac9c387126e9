/- Merged: XDs XDu. -/
import Derived.Test.YtfcfmpdpjmbcnaaGreatDoorEr
import Derived.Test.YtfcfmpdpjmbcnaaGreatDoorSk
import Derived.Test.YtfcfmpdpjmbcnaaGreatDoorFz
import Derived.Test.YtfcfmpdpjmbcnaaGreatDoorFt
set_option linter.unusedVariables false
set_option linter.unusedSimpArgs false
/- Growths, by the reference (chapter 5). -/
namespace Go.Proofs.YtfcfmpdpjmbcnaaGreatDoor
open Go.RowKit
set_option maxRecDepth 20000
set_option maxHeartbeats 8000000

abbrev zrL (n : Nat) : List Int := lst (fun _ => 0) n
theorem nth_zrL (n t : Nat) : nth (zrL n) t = 0 := by
  by_cases h : t < n
  · exact lst_nth _ h
  · exact nth_out (by rw [lst_length]; exact h)
def gqR (den : Int) (x : List Int) (cs : List (List Int)) : Fr × Int := bif decide (cs.length = 0) then ((0, 0), 10) else bif x.any (fun n => decide (n ≠ 0)) then gwQ (hst den cs (zrL cs.length) x cs.length) x else ((0, 0), 11)
theorem gqR_eq {c : List Rg} {den : Int} {x : List Int} {cs : List (List Int)} (h : GwOk c den x cs) : gqR den x cs = gwF den x cs := by
  have h0 := h.c0
  have hW := wsF_ok h.lo.d h.xb (by rw [h.xl]; exact h.lo.l1) (by rw [h.xl]; exact h.lo.l3) h.cf h.cl (dz := zrL cs.length) (nth_zrL cs.length) cs.length (Nat.le_refl _)
  obtain ⟨_, n2, n3⟩ := nz_ok h.nz
  have hD := pow_rng h.lo.d (t := cs.length) (by have := h.cl; omega)
  have e := gwW_eq (show den ^ cs.length ≠ 0 by omega) hW n2 n3
  unfold gqR gwF
  rw [decide_eq_false (show ¬ cs.length = 0 by omega), h.nz, e]
  rfl
theorem gwQ_no {q : List Rat} {x : List Int} {i : Nat} (hi : i < x.length) (h : ¬ q.getD i 0 = q.getD (nzAt x) 0 / ((nth x (nzAt x) : Int) : Rat) * ((nth x i : Int) : Rat)) : gwQ q x = ((0, 0), 19) := by
  unfold gwQ
  rw [show (List.range x.length).all (fun i => decide (q.getD i 0 = q.getD (nzAt x) 0 / ((nth x (nzAt x) : Int) : Rat) * ((nth x i : Int) : Rat))) = false from ?_]
  · rfl
  · rw [List.all_eq_false]
    exact ⟨i, List.mem_range.2 hi, by rw [decide_eq_false h]; decide⟩
theorem gwQ_yes {q : List Rat} {x : List Int} (h : ∀ i, i < x.length → q.getD i 0 = q.getD (nzAt x) 0 / ((nth x (nzAt x) : Int) : Rat) * ((nth x i : Int) : Rat)) : gwQ q x = bif decide (q.getD (nzAt x) 0 / ((nth x (nzAt x) : Int) : Rat) * (q.getD (nzAt x) 0 / ((nth x (nzAt x) : Int) : Rat)) < 1) then ((0, 0), 19) else frQ (q.getD (nzAt x) 0 / ((nth x (nzAt x) : Int) : Rat)) := by
  unfold gwQ
  rw [show (List.range x.length).all (fun i => decide (q.getD i 0 = q.getD (nzAt x) 0 / ((nth x (nzAt x) : Int) : Rat) * ((nth x i : Int) : Rat))) = true from List.all_eq_true.2 fun i hi => decide_eq_true (h i (List.mem_range.1 hi))]
  rfl
end Go.Proofs.YtfcfmpdpjmbcnaaGreatDoor

/- What settles does not grow (chapter 5); the weighted size of a state. -/
namespace Go.Proofs.YtfcfmpdpjmbcnaaGreatDoor
open Go.RowKit
set_option maxRecDepth 20000
set_option maxHeartbeats 8000000

theorem hst_stt {den : Int} {cs : List (List Int)} {dz x : List Int} {n : Nat} (hz : ∀ t, nth dz t = 0) (hl : ∀ t, t < cs.length → (cs.getD t []).length = n) : ∀ t, t ≤ cs.length → hst den cs dz x t = stt den (fun t => cs.getD t []) n (hst den cs dz x 0) t
  | 0, _ => rfl
  | t + 1, h => by
    have ih := hst_stt (den := den) (x := x) hz hl t (by omega)
    rw [hst_succ]
    unfold vlt
    rw [hz, hl t (by omega)]
    show _ = tkS den (cs.getD t []) 0 (stt den (fun t => cs.getD t []) n (hst den cs dz x 0) t) n :: stt den (fun t => cs.getD t []) n (hst den cs dz x 0) t
    rw [← ih]
theorem rlt1 {a b c : Rat} (h1 : a ≤ b) (h2 : b < c) : a < c := Rat.not_le.1 fun h => Rat.not_lt.2 (Rat.le_trans h h1) h2
theorem rlt2 {a b c : Rat} (h1 : a < b) (h2 : b ≤ c) : a < c := Rat.not_le.1 fun h => Rat.not_lt.2 (Rat.le_trans h2 h) h1
theorem absR_sq (r : Rat) : absR r * absR r = r * r := by
  unfold absR
  by_cases h : r < 0
  · rw [decide_eq_true h]; show -r * -r = _; grind
  · rw [decide_eq_false h]; rfl
theorem absR_one {r : Rat} (h : ¬ r * r < 1) : 1 ≤ absR r := by
  refine Rat.not_lt.1 fun hl => h ?_
  rw [← absR_sq]
  have h0 := absR_nonneg r
  generalize absR r = a at *
  have h1 : a * a ≤ 1 * a := Rat.mul_le_mul_of_nonneg_right (Rat.le_of_lt hl) h0
  rw [Rat.one_mul] at h1
  exact rlt1 h1 hl
theorem settle_no {w : List Int} {q p : List Rat} {x : List Int} {N : Rat} (hw : ∀ i, i < x.length → 1 ≤ nth w i) (hN : N < 1) (hN0 : 0 ≤ N) (hp : ∀ i, i < x.length → p.getD i 0 = ((nth x i : Int) : Rat)) (h : wtR w q x.length ≤ N * wtR w p x.length) (hz : nzAt x < x.length) (hm : nth x (nzAt x) ≠ 0) : gwQ q x = ((0, 0), 19) := by
  by_cases hall : ∀ i, i < x.length → q.getD i 0 = q.getD (nzAt x) 0 / ((nth x (nzAt x) : Int) : Rat) * ((nth x i : Int) : Rat)
  · rw [gwQ_yes hall]
    generalize q.getD (nzAt x) 0 / ((nth x (nzAt x) : Int) : Rat) = F at *
    by_cases hF : F * F < 1
    · rw [decide_eq_true hF]; rfl
    · exfalso
      have h1 := absR_one hF
      have hV0 := wtR_nonneg w p x.length
      have hV : wtR w p x.length ≤ N * wtR w p x.length := by
        refine wtR_lub w p (Rat.mul_nonneg hN0 hV0) x.length fun j hj => Rat.le_trans ?_ (Rat.le_trans (wtR_le w q hj) h)
        have hwj : (0 : Rat) < ((nth w j : Int) : Rat) := by exact_mod_cast (show (0 : Int) < nth w j by have := hw j hj; omega)
        rw [hp j hj, hall j hj, absR_mul]
        refine div_le_of hwj ?_
        have e : ((nth w j : Int) : Rat) * (absR F * absR ((nth x j : Int) : Rat) / ((nth w j : Int) : Rat)) = absR F * absR ((nth x j : Int) : Rat) := by
          generalize ((nth w j : Int) : Rat) = b at *
          have hb : b ≠ 0 := fun e => by rw [e] at hwj; exact absurd hwj (by decide)
          grind
        rw [e]
        have := Rat.mul_le_mul_of_nonneg_right h1 (absR_nonneg ((nth x j : Int) : Rat))
        rwa [Rat.one_mul] at this
      have hwz : (0 : Rat) < ((nth w (nzAt x) : Int) : Rat) := by exact_mod_cast (show (0 : Int) < nth w (nzAt x) by have := hw _ hz; omega)
      have h3 := wtR_le w p hz
      rw [hp _ hz, absR_int] at h3
      have h4 : (0 : Rat) < (((nth x (nzAt x)).natAbs : Int) : Rat) := by exact_mod_cast (show (0 : Int) < ((nth x (nzAt x)).natAbs : Int) by omega)
      have hpos : 0 < wtR w p x.length := by
        refine rlt2 (Rat.not_le.1 fun hle => ?_) h3
        have h5 := le_mul_of_div hwz hle
        rw [Rat.mul_zero] at h5
        exact Rat.not_lt.2 h5 h4
      have h6 := (Rat.mul_lt_mul_right hpos).2 hN
      rw [Rat.one_mul] at h6
      exact Rat.not_lt.2 hV h6
  · have hex : ∃ i, i < x.length ∧ ¬ q.getD i 0 = q.getD (nzAt x) 0 / ((nth x (nzAt x) : Int) : Rat) * ((nth x i : Int) : Rat) := by
      refine Classical.byContradiction fun hn => hall fun i hi => Classical.byContradiction fun h => hn ⟨i, hi, h⟩
    obtain ⟨i, hi, hn⟩ := hex
    exact gwQ_no hi hn
theorem absR_S {k : Nat} {r : Rat} (h : RatS k r) : RatS k (absR r) := by
  unfold absR
  cases decide (r < 0)
  · exact h
  · exact h.neg
theorem sign_lt (r : Rat) : r.num.sign < 0 ↔ r < 0 := by
  by_cases h : r < 0
  · have hs : r.num.sign = -1 := Int.sign_eq_neg_one_of_neg (Int.not_le.1 fun h2 => absurd h (Rat.not_lt.2 (Rat.num_nonneg.1 h2)))
    exact ⟨fun _ => h, fun _ => by rw [hs]; decide⟩
  · have hs : 0 ≤ r.num.sign := by
      have := Rat.num_nonneg.2 (Rat.not_lt.1 h)
      rcases Int.lt_or_eq_of_le this with h2 | h2
      · rw [Int.sign_eq_one_of_pos h2]; decide
      · rw [← h2]; decide
    exact ⟨fun h2 => by omega, fun h2 => absurd h2 h⟩
end Go.Proofs.YtfcfmpdpjmbcnaaGreatDoor
