/- Heat after steps. -/
import Derived.Test.YtagpmpbmfjaiiaaGreatDoorPg
set_option linter.unusedVariables false
set_option linter.unusedSimpArgs false
namespace Go.Proofs.YtagpmpbmfjaiiaaGreatDoor
open Go.RowKit
set_option maxRecDepth 20000
set_option maxHeartbeats 8000000

theorem ivs_flat (xs : List Int) : DV.flatL (ivs xs) = true := by
  induction xs with
  | nil => rfl
  | cons x xs ih => exact ih
def heat1 (a c b : Int) (t : List Int) : List Int := lst (stp t a c b) t.length
def heatN (a c b : Int) (t : List Int) : Nat → List Int
  | 0 => t
  | k + 1 => heat1 a c b (heatN a c b t k)
theorem nbr_split {t : List Int} {n b k : Int} (hb : 0 ≤ b) (ht : ∀ x ∈ t, -100000 ≤ x ∧ x ≤ 100000) (hn : -100000 ≤ n ∧ n ≤ 100000) : ∃ y, -100000 ≤ y ∧ y ≤ 100000 ∧ nbr t n b k = (y - n) * b := by
  unfold nbr
  cases h : inR k 0 ((t.length : Int) - 1)
  · exact ⟨n, hn.1, hn.2, by simp⟩
  · obtain ⟨h1, h2⟩ := inR_iff.1 h
    have := ht _ (nth_mem (xs := t) (k := k.toNat) (by omega))
    exact ⟨_, this.1, this.2, rfl⟩
theorem stp_bnd {t : List Int} {a c b : Int} (h : HeatOk t a c b) (hs : c + 2 * b ≤ 1000) {i : Nat} (hi : i < t.length) : -100000 ≤ stp t a c b i ∧ stp t a c b i ≤ 100000 := by
  have hn := h.tb _ (nth_mem hi)
  obtain ⟨ha1, ha2⟩ := h.a
  obtain ⟨hc1, hc2⟩ := h.c
  obtain ⟨hb1, hb2⟩ := h.b
  obtain ⟨l, l1, l2, e1⟩ := nbr_split (k := (i : Int) - 1) hb1 h.tb hn
  obtain ⟨r, r1, r2, e2⟩ := nbr_split (k := (i : Int) + 1) hb1 h.tb hn
  unfold stp
  rw [e1, e2]
  generalize nth t i = n at *
  have p1 : a * c ≤ 100000 * c := Int.mul_le_mul_of_nonneg_right ha2 hc1
  have p2 : l * b ≤ 100000 * b := Int.mul_le_mul_of_nonneg_right l2 hb1
  have p3 : r * b ≤ 100000 * b := Int.mul_le_mul_of_nonneg_right r2 hb1
  have p4 : n * (1000 - c - 2 * b) ≤ 100000 * (1000 - c - 2 * b) := Int.mul_le_mul_of_nonneg_right hn.2 (by omega)
  have q1 : -100000 * c ≤ a * c := Int.mul_le_mul_of_nonneg_right ha1 hc1
  have q2 : -100000 * b ≤ l * b := Int.mul_le_mul_of_nonneg_right l1 hb1
  have q3 : -100000 * b ≤ r * b := Int.mul_le_mul_of_nonneg_right r1 hb1
  have q4 : -100000 * (1000 - c - 2 * b) ≤ n * (1000 - c - 2 * b) := Int.mul_le_mul_of_nonneg_right hn.1 (by omega)
  have e : (a - n) * c + (l - n) * b + (r - n) * b = a * c + l * b + r * b + n * (1000 - c - 2 * b) - 1000 * n := by grind
  omega
theorem heat1_ok {t : List Int} {a c b : Int} (h : HeatOk t a c b) (hs : c + 2 * b ≤ 1000) : HeatOk (heat1 a c b t) a c b := by
  have hl : (heat1 a c b t).length = t.length := by simp [heat1, lst]
  refine ⟨by rw [hl]; exact h.l2, by rw [hl]; exact h.l9, fun x hx => ?_, h.a, h.c, h.b⟩
  obtain ⟨i, hi, rfl⟩ := List.mem_map.1 hx
  exact stp_bnd h hs (List.mem_range.1 hi)
theorem heatN_ok {t : List Int} {a c b : Int} (h : HeatOk t a c b) (hs : c + 2 * b ≤ 1000) : ∀ k, HeatOk (heatN a c b t k) a c b
  | 0 => h
  | k + 1 => heat1_ok (heatN_ok h hs k) hs
theorem isRate_A (n : Int) : AC Tryz.prog 89 [I n] (B (inR n 0 1000)) := by
  refine ac_body Tryz.func89 rfl (by kernel_rfl) fun w0 ok => ?_; show AWp _ (ctx0 w0 ok _) _ (ARet _ _ _) (entry _)
  (repeat' (first | (with_reducible first | intro hg | refine mv (by constructor) ?_) | ((with_reducible first | refine zR ?_ ?_ | refine zW mixed ?_ ?_); exact kr) | ((with_reducible apply zK); exact rfl; exact tf) | ((with_reducible apply zCD); exact rfl) | ((with_reducible apply zCN); exact rfl) | ((with_reducible apply zC); exact rfl) | ((with_reducible refine zX ?_ ?_); exact rfl) | ((with_reducible refine zE (And.intro ?_ ?_)); exact kr) | (with_reducible refine zE ?_) | ((with_reducible apply zP); (first | exact dp | exact oc rfl (within_A _ _ _))) | ((with_reducible apply zN); exact dn) | ((with_reducible apply zA); exact da) | ((with_reducible apply zS); exact ds) | ((with_reducible apply zY); exact rfl; exact rfl; exact tf) | ((with_reducible apply zG); exact rfl; exact rfl; exact tf) | ((with_reducible apply zU); exact rfl; exact rfl) | ((with_reducible apply zD); exact rfl; exact rfl) | ((with_reducible apply zB); exact rfl; exact rfl)))
  ((with_reducible first | apply q_retR | apply q_retN); exact rl)
  rfl
theorem any_sized {xs : List Int} {m : Int} (h : ∀ x ∈ xs, -m ≤ x ∧ x ≤ m) : (xs.any fun x => !inR x (-m) m) = false := by
  rw [List.any_eq_false]
  intro x hx
  rw [inR_iff.2 (h x hx)]; simp
theorem heated_A (t : List Int) (a c b : Int) (n : Nat) (h : HeatOk t a c b) (hs : c + 2 * b ≤ 1000) (hn : n ≤ 200) : AC Tryz.prog 50 [isl t, .agg [I a, I c, I b], I n] (.tuple [isl (heatN a c b t n), I 0]) := by
  have h2 := h.l2
  have h9 := h.l9
  obtain ⟨ha1, ha2⟩ := h.a
  obtain ⟨hc1, hc2⟩ := h.c
  obtain ⟨hb1, hb2⟩ := h.b
  have hsz := sized_A 100000
  have hal := allSized_A t 2 100000 ⟨by decide, by decide⟩ (by omega)
  rw [any_sized h.tb] at hal
  have hsm := small_A a 100000 ⟨by decide, by decide⟩
  rw [inR_iff.2 h.a] at hsm
  have hrc := isRate_A c
  rw [inR_iff.2 h.c] at hrc
  have hrb := isRate_A b
  rw [inR_iff.2 h.b] at hrb
  have hw := within_A n 0 200
  rw [inR_iff.2 ⟨by omega, by omega⟩] at hw
  have e1 : decide ((2 : Int) ≤ t.length) = true := decide_eq_true (by omega)
  have e2 : decide ((t.length : Int) ≤ 9) = true := decide_eq_true (by omega)
  have e3 : decide (c + 2 * b ≤ 1000) = true := decide_eq_true (by omega)
  have hu1 : AC Tryz.prog 57 [B (decide ((2 : Int) ≤ t.length)), I 10] (I 0) := by have := unless_A (decide ((2 : Int) ≤ t.length)) 10; rw [show unl (decide ((2 : Int) ≤ t.length)) 10 = 0 by rw [e1]; rfl] at this; exact this
  have hu2 : AC Tryz.prog 57 [B (decide ((t.length : Int) ≤ 9)), I 8] (I 0) := by have := unless_A (decide ((t.length : Int) ≤ 9)) 8; rw [show unl (decide ((t.length : Int) ≤ 9)) 8 = 0 by rw [e2]; rfl] at this; exact this
  have hu3 : AC Tryz.prog 57 [B (decide (c + 2 * b ≤ 1000)), I 22] (I 0) := by have := unless_A (decide (c + 2 * b ≤ 1000)) 22; rw [show unl (decide (c + 2 * b ≤ 1000)) 22 = 0 by rw [e3]; rfl] at this; exact this
  have hcl := clone_A t (by omega) (fun e => by rw [e] at h2; simp at h2)
  refine ac_body Tryz.func50 rfl (by kernel_rfl) fun w0 ok => ?_; show AWp _ (ctx0 w0 ok _) _ (ARet _ _ _) (entry _)
  (repeat' (first | (with_reducible first | intro hg | refine mv (by constructor) ?_) | ((with_reducible first | refine zR ?_ ?_ | refine zW mixed ?_ ?_); exact kr) | ((with_reducible apply zK); exact rfl; exact tf) | ((with_reducible apply zCD); exact rfl) | ((with_reducible apply zCN); exact rfl) | ((with_reducible apply zC); exact rfl) | ((with_reducible refine zX ?_ ?_); exact rfl) | ((with_reducible refine zE (And.intro ?_ ?_)); exact kr) | (with_reducible refine zE ?_) | ((with_reducible apply zP); (first | exact o_callV rfl rfl hrc (.inl rfl) | exact o_callV rfl rfl hrb (.inl rfl) | exact o_callF1 rfl hcl (ivs_flat _) | exact dp | exact oc rfl (hsz) | exact oc rfl (hal) | exact oc rfl (hsm) | exact oc rfl (hw) | exact oc rfl (hu1) | exact oc rfl (hu2) | exact oc rfl (hu3) | exact oc rfl (unless_A true _) | exact oc rfl (first4_A _ _ _ _) | exact oc rfl (first2_A _ _))) | ((with_reducible apply zN); exact dn) | ((with_reducible apply zA); exact da) | ((with_reducible apply zS); exact ds) | ((with_reducible apply zY); exact rfl; exact rfl; exact tf) | ((with_reducible apply zG); exact rfl; exact rfl; exact tf) | ((with_reducible apply zU); exact rfl; exact rfl) | ((with_reducible apply zD); exact rfl; exact rfl) | ((with_reducible apply zB); exact rfl; exact rfl)))
  refine awp_loopL (α := Nat) (fun k => [(4, .ptr 4 0), (11, .d (isl (heatN a c b t k))), (62, .d (I n)), (63, .d (I k))]) (fun k => [(4, ⟨95, [I a, I c, I b]⟩)]) (fun k => k ≤ n) (fun k => n - k) 0 (Nat.zero_le _) (And.intro rfl (And.intro rfl (And.intro rfl (And.intro rfl trivial)))) (And.intro rfl trivial) fun k hk => ?_
  by_cases hlt : k < n
  · have hst := step_A _ a c b (heatN_ok h hs k)
    (repeat' (first | (with_reducible first | intro hg | refine mv (by constructor) ?_) | ((with_reducible first | refine zR ?_ ?_ | refine zW mixed ?_ ?_); exact kr) | ((with_reducible apply zK); exact rfl; exact tf) | ((with_reducible apply zCD); exact rfl) | ((with_reducible apply zCN); exact rfl) | ((with_reducible apply zC); exact rfl) | ((with_reducible refine zX ?_ ?_); exact rfl) | ((with_reducible refine zE (And.intro ?_ ?_)); exact kr) | (with_reducible refine zE ?_) | ((with_reducible apply zP); (first | exact o_callF1 rfl hst (ivs_flat _) | exact dp)) | ((with_reducible apply zN); exact dn) | ((with_reducible apply zA); exact da) | ((with_reducible apply zS); exact ds) | ((with_reducible apply zY); exact rfl; exact rfl; exact tf) | ((with_reducible apply zG); exact rfl; exact rfl; exact tf) | ((with_reducible apply zU); exact rfl; exact rfl) | ((with_reducible apply zD); exact rfl; exact rfl) | ((with_reducible apply zB); exact rfl; exact rfl)))
    exact ⟨k + 1, hlt, by omega, (And.intro rfl (And.intro (congrArg AV.d (congrArg (fun m => DV.slice m _) (lst_length _ _).symm)) (And.intro (rfl) (And.intro (rfl) trivial)))), (And.intro rfl trivial)⟩
  · (repeat' (first | (with_reducible first | intro hg | refine mv (by constructor) ?_) | ((with_reducible first | refine zR ?_ ?_ | refine zW mixed ?_ ?_); exact kr) | ((with_reducible apply zK); exact rfl; exact tf) | ((with_reducible apply zCD); exact rfl) | ((with_reducible apply zCN); exact rfl) | ((with_reducible apply zC); exact rfl) | ((with_reducible refine zX ?_ ?_); exact rfl) | ((with_reducible refine zE (And.intro ?_ ?_)); exact kr) | (with_reducible refine zE ?_) | ((with_reducible apply zP); exact dp) | ((with_reducible apply zN); exact dn) | ((with_reducible apply zA); exact da) | ((with_reducible apply zS); exact ds) | ((with_reducible apply zY); exact rfl; exact rfl; exact tf) | ((with_reducible apply zG); exact rfl; exact rfl; exact tf) | ((with_reducible apply zU); exact rfl; exact rfl) | ((with_reducible apply zD); exact rfl; exact rfl) | ((with_reducible apply zB); exact rfl; exact rfl)))
    ((with_reducible first | apply q_retR | apply q_retN); exact rl)
    rw [show n = k by omega]; rfl

end Go.Proofs.YtagpmpbmfjaiiaaGreatDoor
