/- Norms, their reference, and which proofs settle. -/
import Derived.Test.YtfcfmpdpjmbcnaaGreatDoorSg
import Derived.Test.YtfcfmpdpjmbcnaaGreatDoorSk
import Derived.Test.YtfcfmpdpjmbcnaaGreatDoorSff
set_option linter.unusedVariables false
set_option linter.unusedSimpArgs false
namespace Go.Proofs.YtfcfmpdpjmbcnaaGreatDoor
open Go.RowKit
set_option maxRecDepth 20000
set_option maxHeartbeats 8000000

def nrm (c : List Rg) (den : Int) (s : Nat) (w : List Int) : Rat := nrmR (powM c den c.length s) w (den ^ s) c.length c.length
theorem row_bnds {c : List Rg} {den : Int} (h : LoopOk c den) {s : Nat} {w : List Int} (hp : PrfOk c.length s w) : (∀ i, i < c.length → (rowS (powM c den c.length s) w i c.length).natAbs ≤ 100000000000 ∧ 0 < nth w i * den ^ s ∧ nth w i * den ^ s ≤ 10000000) := fun i hi => by
  have hb := powM_bnd h s
  have h30 := pow30 hp.s6
  have hdp := pow_den6 h.d hp.s6
  have h3 := h.l3
  have hwl := hp.l
  obtain ⟨r1, r2⟩ := rowS_bnd hb (w := w) hp.nth i c.length
  have hm : c.length * (30 ^ s * 10) ≤ 3 * (30 ^ s * 10) := Nat.mul_le_mul_right _ h3
  have hw := hp.w _ (nth_mem (xs := w) (k := i) (by omega))
  have k1 : 0 < nth w i * den ^ s := Int.mul_pos (by omega) (by omega)
  have k2 : nth w i * den ^ s ≤ 10 * 1000000 := Int.mul_le_mul hw.2 hdp.2 (by omega) (by decide)
  omega
theorem nrmR_ratS {M : Mx} {w : List Int} {dq : Int} {n : Nat} (h : ∀ i, i < n → (rowS M w i n).natAbs ≤ 100000000000 ∧ 0 < nth w i * dq ∧ nth w i * dq ≤ 10000000) : ∀ i, i ≤ n → RatS 3 (nrmR M w dq n i)
  | 0, _ => int_ratS (n := 0) (by decide)
  | i + 1, hi => by
    have ih := nrmR_ratS h i (by omega)
    obtain ⟨h1, h2, h3⟩ := h i (by omega)
    have hd := divInt_ratS (a := rowS M w i n) (b := nth w i * dq) (by omega) h2 (by omega)
    unfold nrmR
    cases decide (nrmR M w dq n i < Rat.divInt (rowS M w i n) (nth w i * dq))
    · exact ih
    · exact hd
theorem nrm_ratS {c : List Rg} {den : Int} (h : LoopOk c den) {s : Nat} {w : List Int} (hp : PrfOk c.length s w) : RatS 3 (nrm c den s w) := nrmR_ratS (row_bnds h hp) _ (Nat.le_refl _)
theorem nrm_bnd {c : List Rg} {den : Int} (h : LoopOk c den) {s : Nat} {w : List Int} (hp : PrfOk c.length s w) : (nrm c den s w).num.natAbs ≤ 100000000000 ∧ ((nrm c den s w).den : Int) ≤ 10000000 := by
  have h1 := normF_SmF (row_bnds h hp) c.length (Nat.le_refl _)
  rw [normF_eq (fun i hi => (row_bnds h hp i hi).2.1) c.length (Nat.le_refl _)] at h1
  exact ⟨h1.1, h1.2.2⟩
theorem norm_q (c : List Rg) (den : Int) (h : LoopOk c den) (s : Nat) (w : List Int) (hp : PrfOk c.length s w) : AC Tryz.prog 54 [loV c den, .agg (prfC s w)] (F2 (qF (nrm c den s w))) := by
  have h1 := norm_A c den h s w hp
  rw [normF_eq (fun i hi => (row_bnds h hp i hi).2.1) c.length (Nat.le_refl _)] at h1
  exact h1
theorem pfE_ok {c : List Rg} {s : Int} {w : List Int} (h : pfE c s w = 0) : ∃ k : Nat, s = k ∧ PrfOk c.length k w := by
  obtain ⟨k1, h2⟩ := fst0_cons h
  obtain ⟨k2, h3⟩ := fst0_cons h2
  rw [fst0_one] at h3
  have k1 := inR_true.1 (unl_ok (by decide) k1)
  have k2 := of_decide_eq_true (unl_ok (by decide) k2)
  have k3 := all_of_any (unl_ok (by decide) h3)
  exact ⟨s.toNat, by omega, by omega, by omega, by omega, fun x hx => inR_true.1 (k3 x hx)⟩
theorem fraction_q (r : Rat) (h1 : r.num.natAbs ≤ 1000000000000000000) (h2 : (r.den : Int) ≤ 1000000000000000000) : AC Tryz.prog 56 [I (qF r).1, I (qF r).2] (.tuple [F2 (frQ r).1, I (frQ r).2]) := by
  have hd := den_pos r
  have h := fraction_A r.num (r.den : Int) ⟨by omega, by omega⟩ hd (by omega)
  rw [frcR_eq hd, Rat.num_divInt_den] at h
  exact h
theorem settles_q (r : Rat) : AC Tryz.prog 55 [F2 (qF r)] (B (decide (r < 1))) := by
  have h := settles_A (qF r)
  rwa [show decide ((qF r).1 < (qF r).2) = decide (r < 1) from decide_eq_decide.2 (lt_one_iff r).symm] at h
def ckS (r : Rat) : Fr × Int := bif decide (r < 1) then frQ r else ((0, 0), 19)
theorem checkSettling_q (c : List Rg) (den : Int) (h : loE c den = 0) (s : Nat) (w : List Int) (hp : PrfOk c.length s w) : AC Tryz.prog 18 [loV c den, .agg (prfC s w)] (.tuple [F2 (ckS (nrm c den s w)).1, I (ckS (nrm c den s w)).2]) := by
  have w1 := proofErr_ok c den h s w hp
  have w2 := norm_q c den (loE_ok h) s w hp
  obtain ⟨b1, b2⟩ := nrm_bnd (loE_ok h) hp
  have w3 := fraction_q (nrm c den s w) (by omega) (by omega)
  have w4 := settles_q (nrm c den s w)
  unfold ckS
  generalize frQ (nrm c den s w) = y at *
  generalize qF (nrm c den s w) = x at *
  cases hs : decide (nrm c den s w < 1)
  all_goals
    rw [hs] at w4
    refine ac_body Tryz.func18 rfl (by kernel_rfl) fun w0 ok => ?_; show AWp _ (ctx0 w0 ok _) _ (ARet _ _ _) (entry _)
    exact zF
/-! The reference. -/
end Go.Proofs.YtfcfmpdpjmbcnaaGreatDoor
/- Runs of exact loops. -/
set_option linter.unusedVariables false
set_option linter.unusedSimpArgs false
namespace Go.Proofs.YtfcfmpdpjmbcnaaGreatDoor
open Go.RowKit
set_option maxRecDepth 20000
set_option maxHeartbeats 8000000

theorem smQ_bnd {r : Rat} (h : smQ r = true) : r.num.natAbs ≤ 1000000000 ∧ (r.den : Int) ≤ 1000000000 := by
  unfold smQ at h
  rw [Bool.and_eq_true] at h
  have h1 := inR_true.1 h.1
  have h2 := inR_true.1 h.2
  exact ⟨by omega, h2.2⟩
theorem bisLow_q (r : Rat) (h : smQ r = true) : AC Tryz.prog 20 [F2 (qF r)] (B true) := by
  obtain ⟨h1, h2⟩ := smQ_bnd h
  have h3 := den_pos r
  have w := bgcd_A r.num (r.den : Int) ⟨by omega, by omega⟩ ⟨by omega, by omega⟩
  have e : Int.gcd r.num (r.den : Int) = 1 := r.reduced
  rw [e] at w
  refine ac_body Tryz.func20 rfl (by kernel_rfl) fun w0 ok => ?_; show AWp _ (ctx0 w0 ok _) _ (ARet _ _ _) (entry _)
  exact zF
theorem bisSmall_q (r : Rat) (h : smQ r = true) : AC Tryz.prog 21 [F2 (qF r)] (B true) := by
  have w := isSmall_A r.num (r.den : Int)
  have e : (inR r.num (-1000000000) 1000000000 && inR (r.den : Int) 1 1000000000) = true := h
  rw [e] at w
  exact w
theorem from_q (r : Rat) (h : smQ r = true) : AC Tryz.prog 28 [F2 (qF r)] (ratV r) := by
  obtain ⟨h1, h2⟩ := smQ_bnd h
  have h3 := den_pos r
  have w := ratioFrom_A (qF r) ⟨by show -9223372036854775808 ≤ r.num; omega, by show r.num ≤ 9223372036854775807; omega⟩ ⟨by show -9223372036854775808 ≤ (r.den : Int); omega, by show (r.den : Int) ≤ 9223372036854775807; omega⟩ (by show (r.den : Int) ≠ 0; omega)
  rw [Rat.num_divInt_den] at w
  exact w
theorem TurnsE.trans {c : Fam} {s : AS} {α β : Type} {T : α → AS} {U : β → AS} (ht : TurnsE c s T) (hu : ∀ x, TurnsE c (T x) U) : TurnsE c s U := fun φ a w h => let ⟨x, φ', h'⟩ := ht φ a w h; hu x φ' a w h'
end Go.Proofs.YtfcfmpdpjmbcnaaGreatDoor
