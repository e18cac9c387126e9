/- Walk: the reference's Fit, behind the equations. -/
import Derived.Test.YtgjhikjnlcbmkaaSm
import Derived.Test.YtgjhikjnlcbmkaaW5
set_option linter.unusedVariables false
set_option linter.unusedSimpArgs false
namespace Go.Proofs.Ytgjhikjnlcbmkaa
open Go.RowKit
set_option maxRecDepth 20000
set_option maxHeartbeats 16000000

theorem vals_get (v : Nat → Rat) {j : Nat} (h : j < 4) : ((rcS [v 0, v 1, v 2, v 3]).drop (((j : Nat) : Int).toNat * 4)).take 4 = ratC (v j) := by
  have h : j = 0 ∨ j = 1 ∨ j = 2 ∨ j = 3 := by omega
  rcases h with rfl | rfl | rfl | rfl <;> rfl
theorem vals_len (v : Nat → Rat) {j : Nat} (h : j < 4) : 4 ≤ ((rcS [v 0, v 1, v 2, v 3]).drop (((j : Nat) : Int).toNat * 4)).length := by
  have h : j = 0 ∨ j = 1 ∨ j = 2 ∨ j = 3 := by omega
  rcases h with rfl | rfl | rfl | rfl <;> exact Nat.le_of_ble_eq_true rfl
theorem divInt_one (a : Int) : Rat.divInt a 1 = ((a : Int) : Rat) := by
  rw [Rat.divInt_eq_div]
  have : ((1 : Int) : Rat) = 1 := rfl
  rw [this]; grind
theorem refFit_tail (M : Nat → Nat → Int) (R : Nat → Int) (W : Nat → Nat → Int) (K : Nat) (hM : M = eqM W K) (hE : EqB M R) (res : DV) (w0 : World) (ok : Nat → Prop)
    (h12 : fitDen M = 0 → res = .tuple [fit0, I 12]) (h8 : fitDen M ≠ 0 → fitAll M R = false → res = .tuple [fit0, I 8]) (h0 : fitDen M ≠ 0 → fitAll M R = true → res = .tuple [.agg (f5V (fitD M R) (fitQ M R)), I 0]) :
    AWp Try.prog (ctx0 w0 ok Try.f11.ntmps) (dropSeq 3 (Try.f11.body.getD .skip)) (ARet Try.prog Try.f11.results.toList res) ⟨frL [(4, .ptr 4 0), (6, .d (rowsV (eqQ M R)))], memL [(4, ⟨34, [I 0, I 0, I 0, I 0, I 0]⟩)]⟩ := by
  obtain ⟨hn, hs⟩ := fit_elim hM hE
  have hsv := solve_A (eqQ M R) (eqQ_S hE)
  have i1 := ratioInt_A 1 ⟨by decide, by decide⟩
  have w1 := bigOf_A 1 ⟨by decide, by decide⟩
  have hden := hE.den
  have hpart := hE.part
  clear hM hE
  show AWp _ _ (Code.seq _ _) _ _
  cases hc : slvQ (eqQ M R) 0 4 with
  | none =>
    rw [hc] at hsv
    have hsv : AC Try.prog 38 [rowsV (eqQ M R)] (.tuple [nilV, B false]) := hsv
    rw [h12 (hn hc)]
    clear hn hs h12 h8 h0 hden hpart
    (repeat' (first | (with_reducible first | intro hg | refine mv (by constructor) ?_) | ((with_reducible first | refine zR ?_ ?_ | refine zW mixed ?_ ?_); exact kr) | ((with_reducible apply zK); exact rfl; exact tf) | ((with_reducible apply zCD); exact rfl) | ((with_reducible apply zCN); exact rfl) | ((with_reducible apply zC); exact rfl) | ((with_reducible refine zX ?_ ?_); exact rfl) | ((with_reducible refine zE (And.intro ?_ ?_)); exact kr) | (with_reducible refine zE ?_) | ((with_reducible apply zP); (first | exact dp | exact oc rfl (hsv))) | ((with_reducible apply zN); exact dn) | ((with_reducible apply zA); exact da) | ((with_reducible apply zS); exact ds) | ((with_reducible apply zY); exact rfl; exact rfl; exact tf) | ((with_reducible apply zG); exact rfl; exact rfl; exact tf) | ((with_reducible apply zU); exact rfl; exact rfl) | ((with_reducible apply zD); exact rfl; exact rfl) | ((with_reducible apply zB); exact rfl; exact rfl)))
    ((with_reducible first | apply q_retR | apply q_retN); exact rl)
    rfl
  | some n =>
    obtain ⟨hD, hpos, hDp, v, hv, _, hl, hq, hvS, hlS⟩ := hs n hc
    rw [hc] at hsv
    have hsv : AC Try.prog 38 [rowsV (eqQ M R)] (.tuple [.slice 4 (rcS [v 0, v 1, v 2, v 3]), B true]) := by rw [← hv]; exact hsv
    have h8 := h8 hD
    have h0 := h0 hD
    clear hn hs h12 hv hc
    (repeat' (first | (with_reducible first | intro hg | refine mv (by constructor) ?_) | ((with_reducible first | refine zR ?_ ?_ | refine zW mixed ?_ ?_); exact kr) | ((with_reducible apply zK); exact rfl; exact tf) | ((with_reducible apply zCD); exact rfl) | ((with_reducible apply zCN); exact rfl) | ((with_reducible apply zC); exact rfl) | ((with_reducible refine zX ?_ ?_); exact rfl) | ((with_reducible refine zE (And.intro ?_ ?_)); exact kr) | (with_reducible refine zE ?_) | ((with_reducible apply zP); (first | exact dp | exact oc rfl (hsv) | exact oc rfl (i1))) | ((with_reducible apply zN); exact dn) | ((with_reducible apply zA); exact da) | ((with_reducible apply zS); exact ds) | ((with_reducible apply zY); exact rfl; exact rfl; exact tf) | ((with_reducible apply zG); exact rfl; exact rfl; exact tf) | ((with_reducible apply zU); exact rfl; exact rfl) | ((with_reducible apply zD); exact rfl; exact rfl) | ((with_reducible apply zB); exact rfl; exact rfl)))
    refine awp_loopL (α := Nat) (fun j => [(4, .ptr 4 0), (14, .d (.slice 4 (rcS [v 0, v 1, v 2, v 3]))), (16, .ptr 16 0), (17, .d (I j))]) (fun j => [(4, ⟨34, [I 0, I 0, I 0, I 0, I 0]⟩), (16, ⟨95, ratC ((lcdQ v j : Int) : Rat)⟩)]) (fun j => j ≤ 4) (fun j => 4 - j) 0 (Nat.zero_le _) (And.intro rfl (And.intro rfl (And.intro rfl (And.intro rfl trivial)))) (And.intro rfl (And.intro rfl trivial)) fun j hj => ?_
    by_cases hj4 : j < 4
    · have hS := hvS j hj4
      have hlj := hlS j hj
      have hlS' := ratS_int (k := 2) hlj (by decide)
      have m1 := ratioMul_A (p := v j) (q := ((lcdQ v j : Int) : Rat)) (hS.mono (by decide)) (hlS'.mono (by decide))
      have hoS := hS.mul hlS'
      have mk := ratioMake_A ((v j * ((lcdQ v j : Int) : Rat)).den : Int) 1 (by decide) (Nat.le_trans hoS.2 (by decide)) (Nat.le_trans (wlen_le1 (x := 1) (by decide)) (by decide))
      rw [divInt_one] at mk
      have m2 := ratioMul_A (p := ((lcdQ v j : Int) : Rat)) (q := (((v j * ((lcdQ v j : Int) : Rat)).den : Int) : Rat)) (hlS'.mono (by decide)) ((ratS_int (k := 4) hoS.2 (by decide)).mono (by decide))
      have e : ((lcdQ v j : Int) : Rat) * (((v j * ((lcdQ v j : Int) : Rat)).den : Int) : Rat) = ((lcdQ v (j + 1) : Int) : Rat) := (Rat.intCast_mul _ _).symm
      rw [e] at m2
      have g1 := vals_get v hj4
      have g2 := vals_len v hj4
      clear hoS hS hlS' e hden hpart hq hvS hlS hl h8 h0 hDp hpos hD
      (repeat' (first | (with_reducible first | intro hg | refine mv (by constructor) ?_) | ((with_reducible first | refine zR ?_ ?_ | refine zW mixed ?_ ?_); exact kr) | ((with_reducible apply zK); exact rfl; exact tf) | ((with_reducible apply zCD); exact rfl) | ((with_reducible apply zCN); exact rfl) | ((with_reducible apply zC); exact rfl) | ((with_reducible refine zX ?_ ?_); exact rfl) | ((with_reducible refine zE (And.intro ?_ ?_)); exact kr) | (with_reducible refine zE ?_) | ((with_reducible apply zP); (first | exact o_indexS rfl rfl (by omega) (by omega) (by simp) | exact o_loadRA rfl g2 g1 | exact dp | exact oc rfl (w1) | exact oc rfl (m1) | exact oc rfl (mk) | exact oc rfl (m2))) | ((with_reducible apply zN); exact dn) | ((with_reducible apply zA); exact da) | ((with_reducible apply zS); exact ds) | ((with_reducible apply zY); exact rfl; exact rfl; exact tf) | ((with_reducible apply zG); exact rfl; exact rfl; exact tf) | ((with_reducible apply zU); exact rfl; exact rfl) | ((with_reducible apply zD); exact rfl; exact rfl) | ((with_reducible apply zB); exact rfl; exact rfl)))
      exact ⟨j + 1, by omega, by omega, (And.intro rfl (And.intro rfl (And.intro rfl (And.intro rfl trivial)))), (And.intro rfl (And.intro rfl trivial))⟩
    obtain rfl : j = 4 := by omega
    have hdb : (fitD M R).natAbs ≤ 849346560000000000 := tdiv_bnd _ _ _ hden
    have hqb : ∀ c, c < 4 → (fitQ M R c).natAbs ≤ 849346560000000000 := fun c hc => tdiv_bnd _ _ _ (hpart c hc)
    have wi := wideInt_ok (fitD M R) (wlen_le2 (by omega))
    rw [hl]
    clear hl hlS hpos hj4 hj hden hpart hD
    (repeat' (first | (with_reducible first | intro hg | refine mv (by constructor) ?_) | ((with_reducible first | refine zR ?_ ?_ | refine zW mixed ?_ ?_); exact kr) | ((with_reducible apply zK); exact rfl; exact tf) | ((with_reducible apply zCD); exact rfl) | ((with_reducible apply zCN); exact rfl) | ((with_reducible apply zC); exact rfl) | ((with_reducible refine zX ?_ ?_); exact rfl) | ((with_reducible refine zE (And.intro ?_ ?_)); exact kr) | (with_reducible refine zE ?_) | ((with_reducible apply zP); (first | exact dp | exact oc rfl (wi))) | ((with_reducible apply zN); exact dn) | ((with_reducible apply zA); exact da) | ((with_reducible apply zS); exact ds) | ((with_reducible apply zY); exact rfl; exact rfl; exact tf) | ((with_reducible apply zG); exact rfl; exact rfl; exact tf) | ((with_reducible apply zU); exact rfl; exact rfl) | ((with_reducible apply zD); exact rfl; exact rfl) | ((with_reducible apply zB); exact rfl; exact rfl)))
    refine awp_loopL (α := Nat) (fun j => [(4, .ptr 4 0), (14, .d (.slice 4 (rcS [v 0, v 1, v 2, v 3]))), (16, .ptr 16 0), (19, .ptr 19 0), (22, .d (I j))]) (fun j => [(4, ⟨34, [I 0, I 0, I 0, I 0, I 0]⟩), (16, ⟨95, ratC ((fitD M R : Int) : Rat)⟩), (19, ⟨34, f5V (fitD M R) (fun c => if c < j then fitQ M R c else 0)⟩)]) (fun j => j ≤ 4 ∧ ∀ c, c < j → fitOk M R c = true) (fun j => 4 - j) 0 ⟨Nat.zero_le _, fun c hc => absurd hc (Nat.not_lt_zero c)⟩ (And.intro rfl (And.intro rfl (And.intro rfl (And.intro rfl (And.intro rfl trivial))))) (And.intro rfl (And.intro rfl (And.intro rfl trivial))) fun j ⟨hj, hok⟩ => ?_
    by_cases hj4 : j < 4
    · have hS := hvS j hj4
      have m1 := ratioMul_A (p := v j) (q := ((fitD M R : Int) : Rat)) (hS.mono (by decide)) ((ratS_int (k := 2) (wlen_le2 (by omega)) (by decide)).mono (by decide))
      rw [hq j hj4] at m1
      have wq := wideInt_ok (fitQ M R j) (wlen_le2 (by have := hqb j hj4; omega))
      have bw := bwithin_A (fitQ M R j) (-1000000000000000) 1000000000000000
      have ef : inR (fitQ M R j) (-1000000000000000) 1000000000000000 = fitOk M R j := rfl
      rw [ef] at bw
      have g1 := vals_get v hj4
      have g2 := vals_len v hj4
      cases hb : fitOk M R j
      · rw [hb] at bw
        rw [h8 (fitAll_not hj4 hb)]
        clear hS hvS hqb hq hok h8 h0 hb hDp hdb ef
        (repeat' (first | (with_reducible first | intro hg | refine mv (by constructor) ?_) | ((with_reducible first | refine zR ?_ ?_ | refine zW mixed ?_ ?_); exact kr) | ((with_reducible apply zK); exact rfl; exact tf) | ((with_reducible apply zCD); exact rfl) | ((with_reducible apply zCN); exact rfl) | ((with_reducible apply zC); exact rfl) | ((with_reducible refine zX ?_ ?_); exact rfl) | ((with_reducible refine zE (And.intro ?_ ?_)); exact kr) | (with_reducible refine zE ?_) | ((with_reducible apply zP); (first | exact o_indexS rfl rfl (by omega) (by omega) (by simp) | exact o_loadRA rfl g2 g1 | exact dp | exact oc rfl (m1) | exact oc rfl (wq) | exact oc rfl (bw))) | ((with_reducible apply zN); exact dn) | ((with_reducible apply zA); exact da) | ((with_reducible apply zS); exact ds) | ((with_reducible apply zY); exact rfl; exact rfl; exact tf) | ((with_reducible apply zG); exact rfl; exact rfl; exact tf) | ((with_reducible apply zU); exact rfl; exact rfl) | ((with_reducible apply zD); exact rfl; exact rfl) | ((with_reducible apply zB); exact rfl; exact rfl)))
        ((with_reducible first | apply q_retR | apply q_retN); exact rl)
        rfl
      · rw [hb] at bw
        have hok' : ∀ c, c < j + 1 → fitOk M R c = true := fun c hc => by
          by_cases e : c = j
          · rw [e]; exact hb
          · exact hok c (by omega)
        have hset : ∀ i, i < 4 → (fun c => if c < j + 1 then fitQ M R c else 0) i = if i = j then fitQ M R j else (fun c => if c < j then fitQ M R c else 0) i := fun i _ => by
          show (if i < j + 1 then fitQ M R i else 0) = if i = j then fitQ M R j else if i < j then fitQ M R i else 0
          by_cases e : i = j
          · subst e; rw [if_pos (by omega), if_pos rfl]
          · rw [if_neg e]
            by_cases h : i < j
            · rw [if_pos h, if_pos (by omega)]
            · rw [if_neg h, if_neg (by omega)]
        clear hS hvS hqb hq hok h8 h0 hb hDp hdb ef
        (repeat' (first | (with_reducible first | intro hg | refine mv (by constructor) ?_) | ((with_reducible first | refine zR ?_ ?_ | refine zW mixed ?_ ?_); exact kr) | ((with_reducible apply zK); exact rfl; exact tf) | ((with_reducible apply zCD); exact rfl) | ((with_reducible apply zCN); exact rfl) | ((with_reducible apply zC); exact rfl) | ((with_reducible refine zX ?_ ?_); exact rfl) | ((with_reducible refine zE (And.intro ?_ ?_)); exact kr) | (with_reducible refine zE ?_) | ((with_reducible apply zP); (first | exact o_indexS rfl rfl (by omega) (by omega) (by simp) | exact o_loadRA rfl g2 g1 | exact dp | exact oc rfl (m1) | exact oc rfl (wq) | exact oc rfl (bw))) | ((with_reducible apply zN); exact dn) | ((with_reducible apply zA); exact da) | ((with_reducible apply zS); (first | exact o_store rfl rfl rfl rfl (by rfl) (by show _ ≤ 5; omega) (f5V_set (g := fun c => if c < j + 1 then fitQ M R c else 0) hj4 _ hset) | exact ds)) | ((with_reducible apply zY); exact rfl; exact rfl; exact tf) | ((with_reducible apply zG); exact rfl; exact rfl; exact tf) | ((with_reducible apply zU); exact rfl; exact rfl) | ((with_reducible apply zD); exact rfl; exact rfl) | ((with_reducible apply zB); exact rfl; exact rfl)))
        exact ⟨j + 1, ⟨by omega, hok'⟩, by omega, (And.intro rfl (And.intro rfl (And.intro rfl (And.intro rfl (And.intro rfl trivial))))), (And.intro rfl (And.intro rfl (And.intro rfl trivial)))⟩
    obtain rfl : j = 4 := by omega
    rw [h0 (fitAll_of hok)]
    clear hvS hqb hq h8 h0 hDp hdb hok hj4 hj
    (repeat' (first | (with_reducible first | intro hg | refine mv (by constructor) ?_) | ((with_reducible first | refine zR ?_ ?_ | refine zW mixed ?_ ?_); exact kr) | ((with_reducible apply zK); exact rfl; exact tf) | ((with_reducible apply zCD); exact rfl) | ((with_reducible apply zCN); exact rfl) | ((with_reducible apply zC); exact rfl) | ((with_reducible refine zX ?_ ?_); exact rfl) | ((with_reducible refine zE (And.intro ?_ ?_)); exact kr) | (with_reducible refine zE ?_) | ((with_reducible apply zP); exact dp) | ((with_reducible apply zN); exact dn) | ((with_reducible apply zA); exact da) | ((with_reducible apply zS); exact ds) | ((with_reducible apply zY); exact rfl; exact rfl; exact tf) | ((with_reducible apply zG); exact rfl; exact rfl; exact tf) | ((with_reducible apply zU); exact rfl; exact rfl) | ((with_reducible apply zD); exact rfl; exact rfl) | ((with_reducible apply zB); exact rfl; exact rfl)))
    ((with_reducible first | apply q_retR | apply q_retN); exact rl)
    rfl

end Go.Proofs.Ytgjhikjnlcbmkaa
