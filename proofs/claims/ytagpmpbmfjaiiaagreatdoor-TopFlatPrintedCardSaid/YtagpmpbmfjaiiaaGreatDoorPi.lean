/- The bound of weights. -/
import Derived.Test.YtagpmpbmfjaiiaaGreatDoorPB
set_option linter.unusedVariables false
set_option linter.unusedSimpArgs false
namespace Go.Proofs.YtagpmpbmfjaiiaaGreatDoor
open Go.RowKit
set_option maxRecDepth 20000
set_option maxHeartbeats 8000000

def smF (f : Int × Int) : Bool := inR f.1 (-1000000000) 1000000000 && decide (f.2 ≤ 1000000000)
theorem isSmall_A (f : Int × Int) : AC Tryz.prog 105 [F2 f] (B (smF f)) := by
  refine ac_body Tryz.func105 rfl (by kernel_rfl) fun w0 ok => ?_; show AWp _ (ctx0 w0 ok _) _ (ARet _ _ _) (entry _)
  (repeat' (first | (with_reducible first | intro hg | refine mv (by constructor) ?_) | ((with_reducible first | refine zR ?_ ?_ | refine zW mixed ?_ ?_); exact kr) | ((with_reducible apply zK); exact rfl; exact tf) | ((with_reducible apply zCD); exact rfl) | ((with_reducible apply zCN); exact rfl) | ((with_reducible apply zC); exact rfl) | ((with_reducible refine zX ?_ ?_); exact rfl) | ((with_reducible refine zE (And.intro ?_ ?_)); exact kr) | (with_reducible refine zE ?_) | ((with_reducible apply zP); (first | exact dp | exact oc rfl (small_A _ _ ⟨by decide, by decide⟩))) | ((with_reducible apply zN); exact dn) | ((with_reducible apply zA); exact da) | ((with_reducible apply zS); exact ds) | ((with_reducible apply zY); exact rfl; exact rfl; exact tf) | ((with_reducible apply zG); exact rfl; exact rfl; exact tf) | ((with_reducible apply zU); exact rfl; exact rfl) | ((with_reducible apply zD); exact rfl; exact rfl) | ((with_reducible apply zB); exact rfl; exact rfl)))
  all_goals
    ((with_reducible first | apply q_retR | apply q_retN); exact rl)
    refine rt_bool ?_
    unfold smF
    rw [hg]
    rfl
def frc (n d : Int) : (Int × Int) × Int := bif smF (low n d) then (low n d, 0) else ((0, 0), 8)
theorem fraction_A (n d : Int) (hn : Sm n) (hd : 0 < d) (hd2 : d ≤ 9223372036854775807) : AC Tryz.prog 73 [I n, I d] (.tuple [F2 (frc n d).1, I (frc n d).2]) := by
  have hs := isSmall_A (low n d)
  cases hq : smF (low n d)
  all_goals
    rw [hq] at hs
    refine ac_body Tryz.func73 rfl (by kernel_rfl) fun w0 ok => ?_; show AWp _ (ctx0 w0 ok _) _ (ARet _ _ _) (entry _)
    (repeat' (first | (with_reducible first | intro hg | refine mv (by constructor) ?_) | ((with_reducible first | refine zR ?_ ?_ | refine zW mixed ?_ ?_); exact kr) | ((with_reducible apply zK); exact rfl; exact tf) | ((with_reducible apply zCD); exact rfl) | ((with_reducible apply zCN); exact rfl) | ((with_reducible apply zC); exact rfl) | ((with_reducible refine zX ?_ ?_); exact rfl) | ((with_reducible refine zE (And.intro ?_ ?_)); exact kr) | (with_reducible refine zE ?_) | ((with_reducible apply zP); (first | exact dp | exact oc rfl (lowest_A _ _ hn hd hd2) | exact oc rfl (hs))) | ((with_reducible apply zN); exact dn) | ((with_reducible apply zA); exact da) | ((with_reducible apply zS); exact ds) | ((with_reducible apply zY); exact rfl; exact rfl; exact tf) | ((with_reducible apply zG); exact rfl; exact rfl; exact tf) | ((with_reducible apply zU); exact rfl; exact rfl) | ((with_reducible apply zD); exact rfl; exact rfl) | ((with_reducible apply zB); exact rfl; exact rfl)))
    ((with_reducible first | apply q_retR | apply q_retN); exact rl)
    unfold frc
    rw [hq]
    rfl

def numT (T w : List Int) : Nat → Int
  | 0 => 0
  | k + 1 => numT T w k + nth w k * nth T k
def denT (w : List Int) : Nat → Int
  | 0 => 0
  | k + 1 => denT w k + (nth w k).natAbs
def num2 (n : Int) (A : List Act3) (w : List Int) : Nat → Int
  | 0 => n
  | k + 1 => num2 n A w k - max (numT (A.getD k a0).eff w w.length * (A.getD k a0).lo) (numT (A.getD k a0).eff w w.length * (A.getD k a0).hi)
structure WgtOk (T w : List Int) : Prop where
  l : w.length = T.length
  b : ∀ x ∈ w, -1000 ≤ x ∧ x ≤ 1000
theorem numT_bnd {T w E : List Int} (hw : WgtOk T w) {m : Nat} (hE : ∀ x ∈ E, x.natAbs ≤ m) (hl : E.length = T.length) : ∀ k, k ≤ w.length → (numT E w k).natAbs ≤ 1000 * m * k
  | 0, _ => by unfold numT; simp
  | k + 1, hk => by
    have h1 := numT_bnd hw hE hl k (by omega)
    have h2 := hw.b _ (nth_mem (xs := w) (k := k) (by omega))
    have h3 := hE _ (nth_mem (xs := E) (k := k) (by rw [hl, ← hw.l]; omega))
    have h4 := mul_rng (x := nth w k) (e := nth E k) 1000 m (by omega) h3
    unfold numT
    rw [Nat.mul_add, Nat.mul_one]
    omega
theorem denT_bnd {T w : List Int} (hw : WgtOk T w) : ∀ k, k ≤ w.length → 0 ≤ denT w k ∧ denT w k ≤ 1000 * k
  | 0, _ => by unfold denT; simp
  | k + 1, hk => by
    have h1 := denT_bnd hw k (by omega)
    have h2 := hw.b _ (nth_mem (xs := w) (k := k) (by omega))
    unfold denT
    omega
theorem isZero_A (n : Int) : AC Tryz.prog 81 ([I n] ++ []) (B (decide (n = 0))) := by
  refine ac_body Tryz.func81 rfl (by kernel_rfl) fun w0 ok => ?_; show AWp _ (ctx0 w0 ok _) _ (ARet _ _ _) (entry _)
  (repeat' (first | (with_reducible first | intro hg | refine mv (by constructor) ?_) | ((with_reducible first | refine zR ?_ ?_ | refine zW mixed ?_ ?_); exact kr) | ((with_reducible apply zK); exact rfl; exact tf) | ((with_reducible apply zCD); exact rfl) | ((with_reducible apply zCN); exact rfl) | ((with_reducible apply zC); exact rfl) | ((with_reducible refine zX ?_ ?_); exact rfl) | ((with_reducible refine zE (And.intro ?_ ?_)); exact kr) | (with_reducible refine zE ?_) | ((with_reducible apply zP); exact dp) | ((with_reducible apply zN); exact dn) | ((with_reducible apply zA); exact da) | ((with_reducible apply zS); exact ds) | ((with_reducible apply zY); exact rfl; exact rfl; exact tf) | ((with_reducible apply zG); exact rfl; exact rfl; exact tf) | ((with_reducible apply zU); exact rfl; exact rfl) | ((with_reducible apply zD); exact rfl; exact rfl) | ((with_reducible apply zB); exact rfl; exact rfl)))
  ((with_reducible first | apply q_retR | apply q_retN); exact rl)
  rfl

theorem num2_bnd {T w : List Int} {A : List Act3} (h : RulOk T A) (hw : WgtOk T w) {n : Int} (hn : n.natAbs ≤ 900000000) : ∀ k, k ≤ A.length → (num2 n A w k).natAbs ≤ 900000000 + 90000000 * k
  | 0, _ => by unfold num2; omega
  | k + 1, hk => by
    have h1 := num2_bnd h hw hn k (by omega)
    obtain ⟨b1, b2, b3, b4, b5⟩ := h.b _ (act_mem (A := A) (k := k) (by omega))
    have h2 := numT_bnd hw (E := (A.getD k Go.Proofs.YtagpmpbmfjaiiaaGreatDoor.a0).eff) (m := 1000) (fun x hx => by have := b5 x hx; omega) b4 w.length (Nat.le_refl _)
    have hl := hw.l
    have h9 := h.t9
    have h3 := mul_rng (x := numT (A.getD k Go.Proofs.YtagpmpbmfjaiiaaGreatDoor.a0).eff w w.length) (e := (A.getD k Go.Proofs.YtagpmpbmfjaiiaaGreatDoor.a0).lo) 9000000 10 (by omega) (by omega)
    have h4 := mul_rng (x := numT (A.getD k Go.Proofs.YtagpmpbmfjaiiaaGreatDoor.a0).eff w w.length) (e := (A.getD k Go.Proofs.YtagpmpbmfjaiiaaGreatDoor.a0).hi) 9000000 10 (by omega) (by omega)
    unfold num2
    omega
def bndW (T : List Int) (A : List Act3) (w : List Int) : (Int × Int) × Int := frc (num2 (numT T w w.length) A w A.length) (denT w w.length)
theorem bound_A (T : List Int) (A : List Act3) (w : List Int) (h : RulOk T A) (he : rulE T A = (0, 0)) (hw : WgtOk T w) (hz : 0 < denT w w.length) (hz2 : (w.any fun x => !decide (x = 0)) = true) :
    AC Tryz.prog 43 [rulV T A, isl w] (.tuple [F2 (bndW T A w).1, I (bndW T A w).2]) := by
  have ht9 := h.t9
  have ha3 := h.a3
  have hwl := hw.l
  have hlo : LenOk T A := ⟨by omega, by omega, fun a ha => by have := (h.b a ha).2.2.2.1; omega⟩
  have hck := checkRules_A T A hlo
  rw [he] at hck
  have hze := all_A 81 (EntI.eq (P := Tryz.prog) (f := 81)) .val _ w 11 (by omega) (fun x _ => isZero_A x)
  rw [hz2] at hze
  have hsz := sized_A 1000
  have hal := allSized_A w 2 1000 ⟨by decide, by decide⟩ (by omega)
  rw [any_sized hw.b] at hal
  have e1 : decide ((w.length : Int) = (T.length : Int)) = true := decide_eq_true (by omega)
  have hu1 : AC Tryz.prog 57 [B (decide ((w.length : Int) = (T.length : Int))), I 10] (I 0) := by have := unless_A (decide ((w.length : Int) = (T.length : Int))) 10; rw [show unl (decide ((w.length : Int) = (T.length : Int))) 10 = 0 by rw [e1]; rfl] at this; exact this
  have hd := denT_bnd hw w.length (Nat.le_refl _)
  have hnT := numT_bnd hw (E := T) (m := 100000) (fun x hx => by have := h.tb x hx; omega) rfl w.length (Nat.le_refl _)
  refine ac_body Tryz.func43 rfl (by kernel_rfl) fun w0 ok => ?_; show AWp _ (ctx0 w0 ok _) _ (ARet _ _ _) (entry _)
  (repeat' (first | (with_reducible first | intro hg | refine mv (by constructor) ?_) | ((with_reducible first | refine zR ?_ ?_ | refine zW mixed ?_ ?_); exact kr) | ((with_reducible apply zK); exact rfl; exact tf) | ((with_reducible apply zCD); exact rfl) | ((with_reducible apply zCN); exact rfl) | ((with_reducible apply zC); exact rfl) | ((with_reducible refine zX ?_ ?_); exact rfl) | ((with_reducible refine zE (And.intro ?_ ?_)); exact kr) | (with_reducible refine zE ?_) | ((with_reducible apply zP); (first | exact dp | exact oc rfl (hck) | exact oc rfl (hze) | exact oc rfl (hsz) | exact oc rfl (hal) | exact oc rfl (hu1) | exact oc rfl (unless_A true _) | exact oc rfl (first4_A _ _ _ _))) | ((with_reducible apply zN); exact dn) | ((with_reducible apply zA); exact da) | ((with_reducible apply zS); exact ds) | ((with_reducible apply zY); exact rfl; exact rfl; exact tf) | ((with_reducible apply zG); exact rfl; exact rfl; exact tf) | ((with_reducible apply zU); exact rfl; exact rfl) | ((with_reducible apply zD); exact rfl; exact rfl) | ((with_reducible apply zB); exact rfl; exact rfl)))
  refine awp_loopL (α := Nat) (fun k => [(1, .d (isl w)), (2, .ptr 2 0), (4, .ptr 4 0), (9, .d (I (numT T w k))), (10, .d (I (denT w k))), (46, .d (isl w)), (47, .d (I w.length)), (48, .d (I k))]) (fun _ => [(2, ⟨25, rulC T A⟩), (4, ⟨63, [I 0, I 0]⟩)]) (fun k => k ≤ w.length) (fun k => w.length - k) 0 (Nat.zero_le _) (And.intro rfl (And.intro rfl (And.intro rfl (And.intro rfl (And.intro rfl (And.intro rfl (And.intro rfl (And.intro rfl trivial)))))))) (And.intro rfl (And.intro rfl trivial)) fun k hk => ?_
  by_cases hlt : k < w.length
  · have b1 := numT_bnd hw (E := T) (m := 100000) (fun x hx => by have := h.tb x hx; omega) rfl k hk
    have b2 := denT_bnd hw k hk
    have b3 := hw.b _ (nth_mem hlt)
    have b4 := h.tb _ (nth_mem (xs := T) (k := k) (by omega))
    have b5 := mul_rng (x := nth w k) (e := nth T k) 1000 100000 (by omega) (by omega)
    have hs := size_A (nth w k) ⟨by omega, by omega⟩
    (repeat' (first | (with_reducible first | intro hg | refine mv (by constructor) ?_) | ((with_reducible first | refine zR ?_ ?_ | refine zW mixed ?_ ?_); exact kr) | ((with_reducible apply zK); exact rfl; exact tf) | ((with_reducible apply zCD); exact rfl) | ((with_reducible apply zCN); exact rfl) | ((with_reducible apply zC); exact rfl) | ((with_reducible refine zX ?_ ?_); exact rfl) | ((with_reducible refine zE (And.intro ?_ ?_)); exact kr) | (with_reducible refine zE ?_) | ((with_reducible apply zP); (first | exact o_indexI (j := k) (xs := w) rfl rfl (by omega) rfl | exact o_indexI (j := k) (xs := T) rfl rfl (by omega) rfl | exact dp | exact oc rfl (hs))) | ((with_reducible apply zN); exact dn) | ((with_reducible apply zA); exact da) | ((with_reducible apply zS); exact ds) | ((with_reducible apply zY); exact rfl; exact rfl; exact tf) | ((with_reducible apply zG); exact rfl; exact rfl; exact tf) | ((with_reducible apply zU); exact rfl; exact rfl) | ((with_reducible apply zD); exact rfl; exact rfl) | ((with_reducible apply zB); exact rfl; exact rfl)))
    exact ⟨k + 1, hlt, by omega, (And.intro rfl (And.intro rfl (And.intro rfl (And.intro rfl (And.intro rfl (And.intro rfl (And.intro rfl (And.intro rfl trivial)))))))), (And.intro rfl (And.intro rfl trivial))⟩
  have hkl : k = w.length := by omega
  subst hkl
  (repeat' (first | (with_reducible first | intro hg | refine mv (by constructor) ?_) | ((with_reducible first | refine zR ?_ ?_ | refine zW mixed ?_ ?_); exact kr) | ((with_reducible apply zK); exact rfl; exact tf) | ((with_reducible apply zCD); exact rfl) | ((with_reducible apply zCN); exact rfl) | ((with_reducible apply zC); exact rfl) | ((with_reducible refine zX ?_ ?_); exact rfl) | ((with_reducible refine zE (And.intro ?_ ?_)); exact kr) | (with_reducible refine zE ?_) | ((with_reducible apply zP); exact dp) | ((with_reducible apply zN); exact dn) | ((with_reducible apply zA); exact da) | ((with_reducible apply zS); exact ds) | ((with_reducible apply zY); exact rfl; exact rfl; exact tf) | ((with_reducible apply zG); exact rfl; exact rfl; exact tf) | ((with_reducible apply zU); exact rfl; exact rfl) | ((with_reducible apply zD); exact rfl; exact rfl) | ((with_reducible apply zB); exact rfl; exact rfl)))
  refine awp_loopL (α := Nat) (fun j => [(1, .d (isl w)), (2, .ptr 2 0), (4, .ptr 4 0), (9, .d (I (num2 (numT T w w.length) A w j))), (10, .d (I (denT w w.length))), (68, .d (actS A)), (69, .d (I A.length)), (70, .d (I j))]) (fun _ => [(2, ⟨25, rulC T A⟩), (4, ⟨63, [I 0, I 0]⟩)]) (fun j => j ≤ A.length) (fun j => A.length - j) 0 (Nat.zero_le _) (And.intro rfl (And.intro rfl (And.intro rfl (And.intro rfl (And.intro rfl (And.intro rfl (And.intro rfl (And.intro rfl trivial)))))))) (And.intro rfl (And.intro rfl trivial)) fun j hj => ?_
  have c1 := num2_bnd h hw (n := numT T w w.length) (by omega) j hj
  by_cases hjl : j < A.length
  · obtain ⟨b1, b2, b3, b4, b5⟩ := h.b _ (act_mem hjl)
    have hE := numT_bnd hw (E := (A.getD j a0).eff) (m := 1000) (fun x hx => by have := b5 x hx; omega) b4
    have c2 := num2_bnd h hw (n := numT T w w.length) (by omega) (j + 1) hjl
    (repeat' (first | (with_reducible first | intro hg | refine mv (by constructor) ?_) | ((with_reducible first | refine zR ?_ ?_ | refine zW mixed ?_ ?_); exact kr) | ((with_reducible apply zK); exact rfl; exact tf) | ((with_reducible apply zCD); exact rfl) | ((with_reducible apply zCN); exact rfl) | ((with_reducible apply zC); exact rfl) | ((with_reducible refine zX ?_ ?_); exact rfl) | ((with_reducible refine zE (And.intro ?_ ?_)); exact kr) | (with_reducible refine zE ?_) | ((with_reducible apply zP); (first | exact o_indexF a0 actC_len (by decide) rfl rfl (by omega) rfl | exact dp)) | ((with_reducible apply zN); exact dn) | ((with_reducible apply zA); exact da) | ((with_reducible apply zS); exact ds) | ((with_reducible apply zY); exact rfl; exact rfl; exact tf) | ((with_reducible apply zG); exact rfl; exact rfl; exact tf) | ((with_reducible apply zU); exact rfl; exact rfl) | ((with_reducible apply zD); exact rfl; exact rfl) | ((with_reducible apply zB); exact rfl; exact rfl)))
    refine awp_loopL (α := Nat) (fun k => [(1, .d (isl w)), (2, .ptr 2 0), (4, .ptr 4 0), (9, .d (I (num2 (numT T w w.length) A w j))), (10, .d (I (denT w w.length))), (14, .ptr 14 0), (15, .d (I (numT (A.getD j a0).eff w k))), (68, .d (actS A)), (69, .d (I A.length)), (70, .d (I j)), (74, .d (isl w)), (75, .d (I w.length)), (76, .d (I k))])
      (fun _ => [(2, ⟨25, rulC T A⟩), (4, ⟨63, [I 0, I 0]⟩), (14, ⟨90, actC (A.getD j a0)⟩)]) (fun k => k ≤ w.length) (fun k => w.length - k) 0 (Nat.zero_le _) (And.intro rfl (And.intro rfl (And.intro rfl (And.intro rfl (And.intro rfl (And.intro rfl (And.intro rfl (And.intro rfl (And.intro rfl (And.intro rfl (And.intro rfl (And.intro rfl (And.intro rfl trivial))))))))))))) (And.intro rfl (And.intro rfl (And.intro rfl trivial))) fun k hk => ?_
    have hEk := hE k hk
    by_cases hkl : k < w.length
    · have hEk1 := hE (k + 1) hkl
      have d1 := hw.b _ (nth_mem hkl)
      have d2 := b5 _ (nth_mem (xs := (A.getD j a0).eff) (k := k) (by omega))
      have d3 := mul_rng (x := nth w k) (e := nth (A.getD j a0).eff k) 1000 1000 (by omega) (by omega)
      (repeat' (first | (with_reducible first | intro hg | refine mv (by constructor) ?_) | ((with_reducible first | refine zR ?_ ?_ | refine zW mixed ?_ ?_); exact kr) | ((with_reducible apply zK); exact rfl; exact tf) | ((with_reducible apply zCD); exact rfl) | ((with_reducible apply zCN); exact rfl) | ((with_reducible apply zC); exact rfl) | ((with_reducible refine zX ?_ ?_); exact rfl) | ((with_reducible refine zE (And.intro ?_ ?_)); exact kr) | (with_reducible refine zE ?_) | ((with_reducible apply zP); (first | exact o_indexI (j := k) (xs := w) rfl rfl (by omega) rfl | exact o_indexI (j := k) (xs := (A.getD j a0).eff) rfl rfl (by omega) rfl | exact dp)) | ((with_reducible apply zN); exact dn) | ((with_reducible apply zA); exact da) | ((with_reducible apply zS); exact ds) | ((with_reducible apply zY); exact rfl; exact rfl; exact tf) | ((with_reducible apply zG); exact rfl; exact rfl; exact tf) | ((with_reducible apply zU); exact rfl; exact rfl) | ((with_reducible apply zD); exact rfl; exact rfl) | ((with_reducible apply zB); exact rfl; exact rfl)))
      exact ⟨k + 1, hkl, by omega, (And.intro rfl (And.intro rfl (And.intro rfl (And.intro rfl (And.intro rfl (And.intro rfl (And.intro rfl (And.intro rfl (And.intro rfl (And.intro rfl (And.intro rfl (And.intro rfl (And.intro rfl trivial))))))))))))), (And.intro rfl (And.intro rfl (And.intro rfl trivial)))⟩
    · have hkl : k = w.length := by omega
      subst hkl
      have d3 := mul_rng (x := numT (A.getD j a0).eff w w.length) (e := (A.getD j a0).lo) 9000000 10 (by omega) (by omega)
      have d4 := mul_rng (x := numT (A.getD j a0).eff w w.length) (e := (A.getD j a0).hi) 9000000 10 (by omega) (by omega)
      (repeat' (first | (with_reducible first | intro hg | refine mv (by constructor) ?_) | ((with_reducible first | refine zR ?_ ?_ | refine zW mixed ?_ ?_); exact kr) | ((with_reducible apply zK); exact rfl; exact tf) | ((with_reducible apply zCD); exact rfl) | ((with_reducible apply zCN); exact rfl) | ((with_reducible apply zC); exact rfl) | ((with_reducible refine zX ?_ ?_); exact rfl) | ((with_reducible refine zE (And.intro ?_ ?_)); exact kr) | (with_reducible refine zE ?_) | ((with_reducible apply zP); exact dp) | ((with_reducible apply zN); exact dn) | ((with_reducible apply zA); exact da) | ((with_reducible apply zS); exact ds) | ((with_reducible apply zY); exact rfl; exact rfl; exact tf) | ((with_reducible apply zG); exact rfl; exact rfl; exact tf) | ((with_reducible apply zU); exact rfl; exact rfl) | ((with_reducible apply zD); exact rfl; exact rfl) | ((with_reducible apply zB); exact rfl; exact rfl)))
      exact ⟨j + 1, hjl, by omega, (And.intro rfl (And.intro rfl (And.intro rfl (And.intro rfl (And.intro rfl (And.intro rfl (And.intro rfl (And.intro rfl trivial)))))))), (And.intro rfl (And.intro rfl trivial))⟩
  · have hjl : j = A.length := by omega
    subst hjl
    have hf := fraction_A (num2 (numT T w w.length) A w A.length) (denT w w.length) ⟨by omega, by omega⟩ hz (by omega)
    (repeat' (first | (with_reducible first | intro hg | refine mv (by constructor) ?_) | ((with_reducible first | refine zR ?_ ?_ | refine zW mixed ?_ ?_); exact kr) | ((with_reducible apply zK); exact rfl; exact tf) | ((with_reducible apply zCD); exact rfl) | ((with_reducible apply zCN); exact rfl) | ((with_reducible apply zC); exact rfl) | ((with_reducible refine zX ?_ ?_); exact rfl) | ((with_reducible refine zE (And.intro ?_ ?_)); exact kr) | (with_reducible refine zE ?_) | ((with_reducible apply zP); (first | exact dp | exact oc rfl (hf))) | ((with_reducible apply zN); exact dn) | ((with_reducible apply zA); exact da) | ((with_reducible apply zS); exact ds) | ((with_reducible apply zY); exact rfl; exact rfl; exact tf) | ((with_reducible apply zG); exact rfl; exact rfl; exact tf) | ((with_reducible apply zU); exact rfl; exact rfl) | ((with_reducible apply zD); exact rfl; exact rfl) | ((with_reducible apply zB); exact rfl; exact rfl)))
    ((with_reducible first | apply q_retR | apply q_retN); exact rl)
    rfl

end Go.Proofs.YtagpmpbmfjaiiaaGreatDoor
