/- Norms, their reference, and which proofs settle. -/
import Derived.Test.YtiabcffcbhlbiaaSj
import Derived.Test.YtiabcffcbhlbiaaSt
set_option linter.unusedVariables false
set_option linter.unusedSimpArgs false
namespace Go.Proofs.Ytiabcffcbhlbiaa
open Go.RowKit
set_option maxRecDepth 20000
set_option maxHeartbeats 8000000

/-- The norm of a proof. -/
def nrm (c : List Rg) (den : Int) (s : Nat) (w : List Int) : Rat := nrmR (powM c den c.length s) w (den ^ s) c.length c.length
theorem row_bnds {c : List Rg} {den : Int} (h : LoopOk c den) {s : Nat} {w : List Int} (hp : PrfOk c.length s w) : (∀ i, i < c.length → (rowS (powM c den c.length s) w i c.length).natAbs ≤ 100000000000 ∧ 0 < nth w i * den ^ s ∧ nth w i * den ^ s ≤ 10000000) := fun i hi => by
  have hb := powM_bnd h s
  have h30 := pow30 hp.s6
  have hdp := pow_den6 h.d hp.s6
  have h3 := h.l3
  have hwl := hp.l
  obtain ⟨r1, r2⟩ := rowS_bnd hb (w := w) hp.nth i c.length
  have hm : c.length * (30 ^ s * 10) ≤ 3 * (30 ^ s * 10) := Nat.mul_le_mul_right _ h3
  have hw := hp.w _ (nth_mem (xs := w) (k := i) (by omega))
  have k1 : 0 < nth w i * den ^ s := Int.mul_pos (by omega) (by omega)
  have k2 : nth w i * den ^ s ≤ 10 * 1000000 := Int.mul_le_mul hw.2 hdp.2 (by omega) (by decide)
  omega
theorem nrm_bnd {c : List Rg} {den : Int} (h : LoopOk c den) {s : Nat} {w : List Int} (hp : PrfOk c.length s w) : (nrm c den s w).num.natAbs ≤ 100000000000 ∧ ((nrm c den s w).den : Int) ≤ 10000000 := by
  have h1 := normF_SmF (row_bnds h hp) c.length (Nat.le_refl _)
  rw [normF_eq (fun i hi => (row_bnds h hp i hi).2.1) c.length (Nat.le_refl _)] at h1
  exact ⟨h1.1, h1.2.2⟩
theorem norm_q (c : List Rg) (den : Int) (h : LoopOk c den) (s : Nat) (w : List Int) (hp : PrfOk c.length s w) : AC Try.prog 53 [loV c den, .agg (prfC s w)] (F2 (qF (nrm c den s w))) := by
  have h1 := norm_A c den h s w hp
  rw [normF_eq (fun i hi => (row_bnds h hp i hi).2.1) c.length (Nat.le_refl _)] at h1
  exact h1
theorem pfE_ok {c : List Rg} {s : Int} {w : List Int} (h : pfE c s w = 0) : ∃ k : Nat, s = k ∧ PrfOk c.length k w := by
  obtain ⟨k1, h2⟩ := fst0_cons h
  obtain ⟨k2, h3⟩ := fst0_cons h2
  rw [fst0_one] at h3
  have k1 := inR_true.1 (unl_ok (by decide) k1)
  have k2 := of_decide_eq_true (unl_ok (by decide) k2)
  have k3 := all_of_any (unl_ok (by decide) h3)
  exact ⟨s.toNat, by omega, by omega, by omega, by omega, fun x hx => inR_true.1 (k3 x hx)⟩
theorem settles_q (r : Rat) : AC Try.prog 54 [F2 (qF r)] (B (decide (r < 1))) := by
  have h := settles_A (qF r)
  rwa [show decide ((qF r).1 < (qF r).2) = decide (r < 1) from decide_eq_decide.2 (lt_one_iff r).symm] at h
/-! The reference. -/
end Go.Proofs.Ytiabcffcbhlbiaa
