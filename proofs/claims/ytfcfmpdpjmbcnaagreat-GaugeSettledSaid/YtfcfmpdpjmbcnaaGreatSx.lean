/- Runs of exact loops. -/
import Derived.Test.YtfcfmpdpjmbcnaaGreatSff
import Derived.Test.YtfcfmpdpjmbcnaaGreatSg
set_option linter.unusedVariables false
set_option linter.unusedSimpArgs false
namespace Go.Proofs.YtfcfmpdpjmbcnaaGreat
open Go.RowKit
set_option maxRecDepth 20000
set_option maxHeartbeats 8000000

/-- Small ratios. -/
theorem smQ_bnd {r : Rat} (h : smQ r = true) : r.num.natAbs ≤ 1000000000 ∧ (r.den : Int) ≤ 1000000000 := by
  unfold smQ at h
  rw [Bool.and_eq_true] at h
  have h1 := inR_true.1 h.1
  have h2 := inR_true.1 h.2
  exact ⟨by omega, h2.2⟩
theorem bisLow_q (r : Rat) (h : smQ r = true) : AC Tryz.prog 55 [F2 (qF r)] (B true) := by
  obtain ⟨h1, h2⟩ := smQ_bnd h
  have h3 := den_pos r
  have w := bgcd_A r.num (r.den : Int) ⟨by omega, by omega⟩ ⟨by omega, by omega⟩
  have e : Int.gcd r.num (r.den : Int) = 1 := r.reduced
  rw [e] at w
  refine ac_body Tryz.func55 rfl (by kernel_rfl) fun w0 ok => ?_; show AWp _ (ctx0 w0 ok _) _ (ARet _ _ _) (entry _)
  (repeat' (first | (with_reducible first | intro hg | refine mv (by constructor) ?_) | ((with_reducible first | refine zR ?_ ?_ | refine zW mixed ?_ ?_); exact kr) | ((with_reducible apply zK); exact rfl; exact tf) | ((with_reducible apply zCD); exact rfl) | ((with_reducible apply zCN); exact rfl) | ((with_reducible apply zC); exact rfl) | ((with_reducible refine zX ?_ ?_); exact rfl) | ((with_reducible refine zE (And.intro ?_ ?_)); exact kr) | (with_reducible refine zE ?_) | ((with_reducible apply zP); (first | exact dp | exact oc rfl (w))) | ((with_reducible apply zN); exact dn) | ((with_reducible apply zA); exact da) | ((with_reducible apply zS); exact ds) | ((with_reducible apply zY); exact rfl; exact rfl; exact tf) | ((with_reducible apply zG); exact rfl; exact rfl; exact tf) | ((with_reducible apply zU); exact rfl; exact rfl) | ((with_reducible apply zD); exact rfl; exact rfl) | ((with_reducible apply zB); exact rfl; exact rfl)))
  ((with_reducible first | apply q_retR | apply q_retN); exact rl)
  rfl
theorem bisSmall_q (r : Rat) (h : smQ r = true) : AC Tryz.prog 56 [F2 (qF r)] (B true) := by
  have w := isSmall_A r.num (r.den : Int)
  have e : (inR r.num (-1000000000) 1000000000 && inR (r.den : Int) 1 1000000000) = true := h
  rw [e] at w
  exact w
theorem gsmall_q (r : Rat) (h : smQ r = true) : AC Tryz.prog 19 [F2 (qF r)] (B true) := by
  have w1 := bisLow_q r h
  have w2 := bisSmall_q r h
  refine ac_body Tryz.func19 rfl (by kernel_rfl) fun w0 ok => ?_; show AWp _ (ctx0 w0 ok _) _ (ARet _ _ _) (entry _)
  (repeat' (first | (with_reducible first | intro hg | refine mv (by constructor) ?_) | ((with_reducible first | refine zR ?_ ?_ | refine zW mixed ?_ ?_); exact kr) | ((with_reducible apply zK); exact rfl; exact tf) | ((with_reducible apply zCD); exact rfl) | ((with_reducible apply zCN); exact rfl) | ((with_reducible apply zC); exact rfl) | ((with_reducible refine zX ?_ ?_); exact rfl) | ((with_reducible refine zE (And.intro ?_ ?_)); exact kr) | (with_reducible refine zE ?_) | ((with_reducible apply zP); (first | exact dp | exact oc rfl (w1) | exact oc rfl (w2))) | ((with_reducible apply zN); exact dn) | ((with_reducible apply zA); exact da) | ((with_reducible apply zS); exact ds) | ((with_reducible apply zY); exact rfl; exact rfl; exact tf) | ((with_reducible apply zG); exact rfl; exact rfl; exact tf) | ((with_reducible apply zU); exact rfl; exact rfl) | ((with_reducible apply zD); exact rfl; exact rfl) | ((with_reducible apply zB); exact rfl; exact rfl)))
  ((with_reducible first | apply q_retR | apply q_retN); exact rl)
  rfl
theorem from_q (r : Rat) (h : smQ r = true) : AC Tryz.prog 24 [F2 (qF r)] (ratV r) := by
  obtain ⟨h1, h2⟩ := smQ_bnd h
  have h3 := den_pos r
  have w := ratioFrom_A (qF r) ⟨by show -9223372036854775808 ≤ r.num; omega, by show r.num ≤ 9223372036854775807; omega⟩ ⟨by show -9223372036854775808 ≤ (r.den : Int); omega, by show (r.den : Int) ≤ 9223372036854775807; omega⟩ (by show (r.den : Int) ≠ 0; omega)
  rw [Rat.num_divInt_den] at w
  exact w
theorem TurnsE.trans {c : Fam} {s : AS} {α β : Type} {T : α → AS} {U : β → AS} (ht : TurnsE c s T) (hu : ∀ x, TurnsE c (T x) U) : TurnsE c s U := fun φ a w h => let ⟨x, φ', h'⟩ := ht φ a w h; hu x φ' a w h'
end Go.Proofs.YtfcfmpdpjmbcnaaGreat
