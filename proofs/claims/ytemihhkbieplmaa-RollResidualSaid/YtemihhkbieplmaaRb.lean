/- Runs: what they leave (the plain law of RollResidual, its second part). -/
import Derived.Test.YtemihhkbieplmaaRa
set_option linter.unusedVariables false
set_option linter.unusedSimpArgs false
namespace Go.Proofs.Ytemihhkbieplmaa
open Go.RowKit
set_option maxRecDepth 20000

theorem near_shift {m O t : Nat} (hm : 0 < m) (l : List Int) : nearRe ((4 * m : Nat) : Int) (O : Nat) l ((t * (4 * m) : Nat) : Int) = nearRe ((4 * m : Nat) : Int) (O : Nat) l 0 ∧ nearIm ((4 * m : Nat) : Int) (O : Nat) l ((t * (4 * m) : Nat) : Int) = nearIm ((4 * m : Nat) : Int) (O : Nat) l 0 := by
  have key (q : Int) : rsum ((4 * m : Nat) : Int) (O : Nat) l ((t * (4 * m) : Nat) : Int) q = rsum ((4 * m : Nat) : Int) (O : Nat) l 0 q := by
    have h := sq_shift (O := O) (t := t) hm q (l.take (cnt l.length ((4 * m : Nat) : Int))) 0
    rw [Nat.zero_add] at h
    exact h
  unfold nearRe nearIm
  rw [key 0, key 1, key 2, key 3]
  exact ⟨rfl, rfl⟩
theorem turn_bndM {xs : List Int} {P t : Nat} {M : Int} (h : (t + 1) * P ≤ xs.length) (hM : ∀ j : Nat, t * P ≤ j → j < (t + 1) * P → -M ≤ nth xs j ∧ nth xs j ≤ M) : Bnd M (turnOf xs P t) := fun x hx => by
  have hl := turn_len h
  obtain ⟨i, hi, rfl⟩ := List.getElem_of_mem hx
  have h1 : (t + 1) * P = t * P + P := Nat.succ_mul t P
  have h2 := hM (t * P + i) (by omega) (by omega)
  have e : (turnOf xs P t)[i] = nth xs (t * P + i) := by
    simp only [turnOf, nth, List.getElem_take, List.getElem_drop]
    rw [List.getD_eq_getElem?_getD, List.getElem?_eq_getElem (by omega)]; rfl
  rw [e]; exact h2
theorem div_turn {m k : Nat} (hm : 0 < m) (hk : 4 * m ≤ k) : (k / (4 * m) - 1 + 1) * (4 * m) = k / (4 * m) * (4 * m) ∧ k / (4 * m) * (4 * m) ≤ k ∧ 1 ≤ k / (4 * m) := by
  have h1 : 1 ≤ k / (4 * m) := (Nat.le_div_iff_mul_le (by omega)).2 (by omega)
  exact ⟨by rw [Nat.sub_add_cancel h1], Nat.div_mul_le_self _ _, h1⟩
/-- A sample of a run is not much greater than the record's. -/
theorem run_bnd {m O k : Nat} (hm : 0 < m) (xs : List Int) (M : Int) (h0 : 0 ≤ M) (hk : k < xs.length)
    (hM : 4 * m ≤ k → ∀ j : Nat, k / (4 * m) * (4 * m) - 4 * m ≤ j → j < k / (4 * m) * (4 * m) → -M ≤ nth xs j ∧ nth xs j ≤ M) : -M ≤ runAt xs (4 * m) (O : Nat) k - nth xs k ∧ runAt xs (4 * m) (O : Nat) k - nth xs k ≤ M := by
  unfold runAt
  by_cases hlt : k < 4 * m
  · rw [if_pos hlt]; omega
  · rw [if_neg hlt]
    obtain ⟨d1, d2, d3⟩ := div_turn hm (show 4 * m ≤ k by omega)
    have hs : (k / (4 * m) - 1) * (4 * m) = k / (4 * m) * (4 * m) - 4 * m := by rw [Nat.sub_mul, Nat.one_mul]
    have hle : (k / (4 * m) - 1 + 1) * (4 * m) ≤ xs.length := by omega
    have hb := turn_bndM (M := M) hle fun j h1 h2 => hM (by omega) j (by omega) (by omega)
    have hl := turn_len hle
    have hn := near_le (O := O) hm _ M h0 hb (by omega)
    obtain ⟨s1, s2⟩ := near_shift (O := O) (t := k / (4 * m) - 1) hm (turnOf xs (4 * m) (k / (4 * m) - 1))
    rw [s1, s2]
    have hw := wave_bnd (p := ((4 * m : Nat) : Int)) (o := (O : Nat)) (re := nearRe ((4 * m : Nat) : Int) (O : Nat) (turnOf xs (4 * m) (k / (4 * m) - 1)) 0) (im := nearIm ((4 * m : Nat) : Int) (O : Nat) (turnOf xs (4 * m) (k / (4 * m) - 1)) 0) (k := (k : Int)) (B := M) (by omega) (by omega)
    omega
theorem turn_lst (f : Nat → Int) {n P t : Nat} (h : (t + 1) * P ≤ n) : turnOf (lst f n) P t = lst (fun i => f (t * P + i)) P := by
  have hl := turn_len (xs := lst f n) (P := P) (t := t) (by rw [lst_length]; exact h)
  apply List.ext_getElem
  · rw [hl, lst_length]
  · intro i h1 h2
    simp only [turnOf, lst, List.getElem_take, List.getElem_drop, List.getElem_map, List.getElem_range]
/-- The run of a wave plus a constant is the constant behind the first turn. -/
theorem pure_run {m O n k : Nat} {re im st : Int} (hm : 0 < m) (f : Nat → Int) (hf : ∀ k, f k = st + wave ((4 * m : Nat) : Int) (O : Nat) re im (k : Nat)) (hk : 4 * m ≤ k) (hn : k < n) : runAt (lst f n) (4 * m) (O : Nat) k = st := by
  obtain ⟨d1, d2, d3⟩ := div_turn hm hk
  unfold runAt
  rw [if_neg (by omega), turn_lst f (by omega)]
  obtain ⟨s1, s2⟩ := near_shift (O := O) (t := k / (4 * m) - 1) hm (lst (fun i => f ((k / (4 * m) - 1) * (4 * m) + i)) (4 * m))
  rw [s1, s2]
  have key (q : Nat) (hq : q < 4) := rsum_const (m := m) (o := O) hm hq (fun i => f ((k / (4 * m) - 1) * (4 * m) + i)) (st + waveQ (q : Nat) re im) (4 * m) fun i hi h => by
    show f ((k / (4 * m) - 1) * (4 * m) + i) = _
    rw [hf]
    have h2 := qtr_shift (O := O) (t := k / (4 * m) - 1) hm i
    rw [Nat.add_comm i] at h2
    rw [wave_qtr (h2.trans h)]
  rw [Nat.div_self (by omega), Nat.one_mul] at key
  have k0 := key 0 (by omega)
  have k1 := key 1 (by omega)
  have k2 := key 2 (by omega)
  have k3 := key 3 (by omega)
  have hc : ((cnt (lst (fun i => f ((k / (4 * m) - 1) * (4 * m) + i)) (4 * m)).length ((4 * m : Nat) : Int) : Nat) : Int) = 4 * (m : Int) := by
    rw [lst_length, cnt_four, Nat.div_self (by omega), Nat.one_mul]
  have e0 : rsum ((4 * m : Nat) : Int) (O : Nat) (lst (fun i => f ((k / (4 * m) - 1) * (4 * m) + i)) (4 * m)) 0 0 = (st + re) * m := k0
  have e1 : rsum ((4 * m : Nat) : Int) (O : Nat) (lst (fun i => f ((k / (4 * m) - 1) * (4 * m) + i)) (4 * m)) 0 1 = (st + -im) * m := k1
  have e2 : rsum ((4 * m : Nat) : Int) (O : Nat) (lst (fun i => f ((k / (4 * m) - 1) * (4 * m) + i)) (4 * m)) 0 2 = (st + -re) * m := k2
  have e3 : rsum ((4 * m : Nat) : Int) (O : Nat) (lst (fun i => f ((k / (4 * m) - 1) * (4 * m) + i)) (4 * m)) 0 3 = (st + im) * m := k3
  unfold nearRe nearIm
  rw [hc, e0, e1, e2, e3, Int.add_mul, Int.add_mul, Int.add_mul, Int.add_mul, Int.neg_mul, Int.neg_mul]
  rw [show 2 * (st * (m : Int) + re * m - (st * m + -(re * m))) = re * (4 * (m : Int)) by rw [four_mul]; omega, show 2 * (st * (m : Int) + im * m - (st * m + -(im * m))) = im * (4 * (m : Int)) by rw [four_mul]; omega]
  rw [near_exact (by omega), near_exact (by omega), lst_nth _ hn, hf]
  omega
end Go.Proofs.Ytemihhkbieplmaa
