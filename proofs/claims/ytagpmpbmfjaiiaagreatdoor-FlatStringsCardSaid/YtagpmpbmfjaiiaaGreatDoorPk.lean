/- Sets of positions. -/
import Derived.Test.YtagpmpbmfjaiiaaGreatDoorPe
import Derived.Test.YtagpmpbmfjaiiaaGreatDoorPj
set_option linter.unusedVariables false
set_option linter.unusedSimpArgs false
namespace Go.Proofs.YtagpmpbmfjaiiaaGreatDoor
open Go.RowKit
set_option maxRecDepth 20000
set_option maxHeartbeats 8000000

theorem pow_lt {k : Nat} (hk : k < 62) : 2 ^ k < 4611686018427387904 := Nat.pow_lt_pow_right (a := 2) (n := 62) (by decide) hk
theorem shl1 {k : Nat} (hk : k < 62) : IntKind.i64.wrap (1 * 2 ^ k) = ((2 ^ k : Nat) : Int) := by
  rw [Int.one_mul, show (2 : Int) ^ k = ((2 ^ k : Nat) : Int) by simp]
  exact wrap_nat (pow_lt hk)
def keptTo (T : List Int) (A : List Act3) (xs : List Int) (m : Int) : Nat → Nat
  | 0 => 0
  | k + 1 => bif decide (((devP T A xs k).natAbs : Int) ≤ m) then keptTo T A xs m k ||| 2 ^ k else keptTo T A xs m k
theorem keptTo_lt {T : List Int} {A : List Act3} {xs : List Int} {m : Int} : ∀ k, keptTo T A xs m k < 2 ^ k
  | 0 => by simp [keptTo]
  | k + 1 => by
    have h := keptTo_lt (T := T) (A := A) (xs := xs) (m := m) k
    have h2 : 2 ^ k < 2 ^ (k + 1) := Nat.pow_lt_pow_right (by decide) (by omega)
    unfold keptTo
    cases decide (((devP T A xs k).natAbs : Int) ≤ m)
    · show keptTo T A xs m k < _; omega
    · exact Nat.or_lt_two_pow (by omega) h2
theorem kept_A (T : List Int) (A : List Act3) (xs : List Int) (m : Int) (h : RulOk T A) (hs : SetOk A xs) : AC Tryz.prog 85 [rulV T A, isl xs, I m] (I (keptTo T A xs m T.length : Nat)) := by
  have ht9 := h.t9
  have ha3 := h.a3
  refine ac_body Tryz.func85 rfl (by kernel_rfl) fun w0 ok => ?_; show AWp _ (ctx0 w0 ok _) _ (ARet _ _ _) (entry _)
  (repeat' (first | (with_reducible first | intro hg | refine mv (by constructor) ?_) | ((with_reducible first | refine zR ?_ ?_ | refine zW mixed ?_ ?_); exact kr) | ((with_reducible apply zK); exact rfl; exact tf) | ((with_reducible apply zCD); exact rfl) | ((with_reducible apply zCN); exact rfl) | ((with_reducible apply zC); exact rfl) | ((with_reducible refine zX ?_ ?_); exact rfl) | ((with_reducible refine zE (And.intro ?_ ?_)); exact kr) | (with_reducible refine zE ?_) | ((with_reducible apply zP); exact dp) | ((with_reducible apply zN); exact dn) | ((with_reducible apply zA); exact da) | ((with_reducible apply zS); exact ds) | ((with_reducible apply zY); exact rfl; exact rfl; exact tf) | ((with_reducible apply zG); exact rfl; exact rfl; exact tf) | ((with_reducible apply zU); exact rfl; exact rfl) | ((with_reducible apply zD); exact rfl; exact rfl) | ((with_reducible apply zB); exact rfl; exact rfl)))
  refine awp_loopL (α := Nat) (fun k => [(1, .d (isl xs)), (2, .d (I m)), (3, .ptr 3 0), (7, .d (I (keptTo T A xs m k : Nat))), (12, .d (I T.length)), (13, .d (I k))]) (fun _ => [(3, ⟨116, rulC T A⟩)]) (fun k => k ≤ T.length) (fun k => T.length - k) 0 (Nat.zero_le _) (And.intro rfl (And.intro rfl (And.intro rfl (And.intro rfl (And.intro rfl (And.intro rfl trivial)))))) (And.intro rfl trivial) fun k hk => ?_
  by_cases hlt : k < T.length
  · have hb2 := devTo_bnd h hs hlt A.length (Nat.le_refl _)
    have hdv := deviation_A T A xs k h hs hlt
    have hsz := size_A (devP T A xs k) ⟨by unfold devP; omega, by unfold devP; omega⟩
    have hkl := keptTo_lt (T := T) (A := A) (xs := xs) (m := m) k
    have hpk := pow_lt (k := k) (by omega)
    by_cases hc : ((devP T A xs k).natAbs : Int) ≤ m
    · have hn : keptTo T A xs m (k + 1) = keptTo T A xs m k ||| 2 ^ k := by
        show (bif decide _ then _ else _) = _
        rw [decide_eq_true hc]; rfl
      (repeat' (first | (with_reducible first | intro hg | refine mv (by constructor) ?_) | ((with_reducible first | refine zR ?_ ?_ | refine zW mixed ?_ ?_); exact kr) | ((with_reducible apply zK); exact rfl; exact tf) | ((with_reducible apply zCD); exact rfl) | ((with_reducible apply zCN); exact rfl) | ((with_reducible apply zC); exact rfl) | ((with_reducible refine zX ?_ ?_); exact rfl) | ((with_reducible refine zE (And.intro ?_ ?_)); exact kr) | (with_reducible refine zE ?_) | ((with_reducible apply zP); (first | exact o_shl (n := k) rfl rfl (by omega) (shl1 (by omega)) | exact o_orN rfl rfl (by omega) hpk | exact dp | exact oc rfl (hdv) | exact oc rfl (hsz))) | ((with_reducible apply zN); exact dn) | ((with_reducible apply zA); exact da) | ((with_reducible apply zS); exact ds) | ((with_reducible apply zY); exact rfl; exact rfl; exact tf) | ((with_reducible apply zG); exact rfl; exact rfl; exact tf) | ((with_reducible apply zU); exact rfl; exact rfl) | ((with_reducible apply zD); exact rfl; exact rfl) | ((with_reducible apply zB); exact rfl; exact rfl)))
      exact ⟨k + 1, hlt, by omega, (And.intro rfl (And.intro rfl (And.intro rfl (And.intro (congrArg (fun n : Nat => AV.d (I n)) hn.symm) (And.intro (rfl) (And.intro (rfl) trivial)))))), (And.intro rfl trivial)⟩
    · have hn : keptTo T A xs m (k + 1) = keptTo T A xs m k := by
        show (bif decide _ then _ else _) = _
        rw [decide_eq_false hc]; rfl
      (repeat' (first | (with_reducible first | intro hg | refine mv (by constructor) ?_) | ((with_reducible first | refine zR ?_ ?_ | refine zW mixed ?_ ?_); exact kr) | ((with_reducible apply zK); exact rfl; exact tf) | ((with_reducible apply zCD); exact rfl) | ((with_reducible apply zCN); exact rfl) | ((with_reducible apply zC); exact rfl) | ((with_reducible refine zX ?_ ?_); exact rfl) | ((with_reducible refine zE (And.intro ?_ ?_)); exact kr) | (with_reducible refine zE ?_) | ((with_reducible apply zP); (first | exact dp | exact oc rfl (hdv) | exact oc rfl (hsz))) | ((with_reducible apply zN); exact dn) | ((with_reducible apply zA); exact da) | ((with_reducible apply zS); exact ds) | ((with_reducible apply zY); exact rfl; exact rfl; exact tf) | ((with_reducible apply zG); exact rfl; exact rfl; exact tf) | ((with_reducible apply zU); exact rfl; exact rfl) | ((with_reducible apply zD); exact rfl; exact rfl) | ((with_reducible apply zB); exact rfl; exact rfl)))
      exact ⟨k + 1, hlt, by omega, (And.intro rfl (And.intro rfl (And.intro rfl (And.intro (congrArg (fun n : Nat => AV.d (I n)) hn.symm) (And.intro (rfl) (And.intro (rfl) trivial)))))), (And.intro rfl trivial)⟩
  · (repeat' (first | (with_reducible first | intro hg | refine mv (by constructor) ?_) | ((with_reducible first | refine zR ?_ ?_ | refine zW mixed ?_ ?_); exact kr) | ((with_reducible apply zK); exact rfl; exact tf) | ((with_reducible apply zCD); exact rfl) | ((with_reducible apply zCN); exact rfl) | ((with_reducible apply zC); exact rfl) | ((with_reducible refine zX ?_ ?_); exact rfl) | ((with_reducible refine zE (And.intro ?_ ?_)); exact kr) | (with_reducible refine zE ?_) | ((with_reducible apply zP); exact dp) | ((with_reducible apply zN); exact dn) | ((with_reducible apply zA); exact da) | ((with_reducible apply zS); exact ds) | ((with_reducible apply zY); exact rfl; exact rfl; exact tf) | ((with_reducible apply zG); exact rfl; exact rfl; exact tf) | ((with_reducible apply zU); exact rfl; exact rfl) | ((with_reducible apply zD); exact rfl; exact rfl) | ((with_reducible apply zB); exact rfl; exact rfl)))
    ((with_reducible first | apply q_retR | apply q_retN); exact rl)
    exact rt_int (by rw [show k = T.length by omega])
theorem everywhere_A (T : List Int) (A : List Act3) (h : RulOk T A) : AC Tryz.prog 86 [rulV T A] (I ((2 ^ T.length : Nat) - 1)) := by
  have ht9 := h.t9
  have hp := pow_lt (k := T.length) (by omega)
  have hsh := shl1 (k := T.length) (by omega)
  obtain ⟨N, hN⟩ : ∃ N, N = 2 ^ T.length := ⟨_, rfl⟩
  rw [← hN] at hp hsh ⊢
  refine ac_body Tryz.func86 rfl (by kernel_rfl) fun w0 ok => ?_; show AWp _ (ctx0 w0 ok _) _ (ARet _ _ _) (entry _)
  (repeat' (first | (with_reducible first | intro hg | refine mv (by constructor) ?_) | ((with_reducible first | refine zR ?_ ?_ | refine zW mixed ?_ ?_); exact kr) | ((with_reducible apply zK); exact rfl; exact tf) | ((with_reducible apply zCD); exact rfl) | ((with_reducible apply zCN); exact rfl) | ((with_reducible apply zC); exact rfl) | ((with_reducible refine zX ?_ ?_); exact rfl) | ((with_reducible refine zE (And.intro ?_ ?_)); exact kr) | (with_reducible refine zE ?_) | ((with_reducible apply zP); (first | exact o_shl (n := T.length) rfl rfl (by omega) hsh | exact dp)) | ((with_reducible apply zN); exact dn) | ((with_reducible apply zA); exact da) | ((with_reducible apply zS); exact ds) | ((with_reducible apply zY); exact rfl; exact rfl; exact tf) | ((with_reducible apply zG); exact rfl; exact rfl; exact tf) | ((with_reducible apply zU); exact rfl; exact rfl) | ((with_reducible apply zD); exact rfl; exact rfl) | ((with_reducible apply zB); exact rfl; exact rfl)))
  ((with_reducible first | apply q_retR | apply q_retN); exact rl)
  rfl

/-- The positions of a set below k. -/
def posTo (s : Nat) : Nat → List Int
  | 0 => []
  | k + 1 => bif decide ((((s / 2 ^ k) &&& 1 : Nat) : Int) = 1) then posTo s k ++ [(k : Int)] else posTo s k
theorem posTo_len (s : Nat) : ∀ k, (posTo s k).length ≤ k
  | 0 => by simp [posTo]
  | k + 1 => by
    have := posTo_len s k
    unfold posTo
    cases decide ((((s / 2 ^ k) &&& 1 : Nat) : Int) = 1)
    · show (posTo s k).length ≤ _; omega
    · show (posTo s k ++ [(k : Int)]).length ≤ _; simp; omega
theorem shrN (s k : Nat) : (s : Int).fdiv (2 ^ k) = ((s / 2 ^ k : Nat) : Int) := by
  rw [show (2 : Int) ^ k = ((2 ^ k : Nat) : Int) by simp]
  rw [Int.fdiv_eq_ediv_of_nonneg _ (Int.natCast_nonneg _)]
  simp
theorem positions_A (s : Nat) (hs : s < 1000) (hne : posTo s 9 ≠ []) : AC Tryz.prog 87 [I s] (isl (posTo s 9)) := by
  refine ac_body Tryz.func87 rfl (by kernel_rfl) fun w0 ok => ?_; show AWp _ (ctx0 w0 ok _) _ (ARet _ _ _) (entry _)
  (repeat' (first | (with_reducible first | intro hg | refine mv (by constructor) ?_) | ((with_reducible first | refine zR ?_ ?_ | refine zW mixed ?_ ?_); exact kr) | ((with_reducible apply zK); exact rfl; exact tf) | ((with_reducible apply zCD); exact rfl) | ((with_reducible apply zCN); exact rfl) | ((with_reducible apply zC); exact rfl) | ((with_reducible refine zX ?_ ?_); exact rfl) | ((with_reducible refine zE (And.intro ?_ ?_)); exact kr) | (with_reducible refine zE ?_) | ((with_reducible apply zP); exact dp) | ((with_reducible apply zN); exact dn) | ((with_reducible apply zA); exact da) | ((with_reducible apply zS); exact ds) | ((with_reducible apply zY); exact rfl; exact rfl; exact tf) | ((with_reducible apply zG); exact rfl; exact rfl; exact tf) | ((with_reducible apply zU); exact rfl; exact rfl) | ((with_reducible apply zD); exact rfl; exact rfl) | ((with_reducible apply zB); exact rfl; exact rfl)))
  refine awp_loopL (α := Nat × List Int) (fun x => [(0, .d (I s)), (3, ownL 16 x.2), (5, .d (I x.1))]) (fun x => ownLM 16 3 x.2) (fun x => x.1 ≤ 9 ∧ x.2 = posTo s x.1) (fun x => 9 - x.1) (0, []) ⟨by decide, rfl⟩ (And.intro rfl (And.intro rfl (And.intro rfl trivial))) trivial fun ⟨k, l⟩ ⟨hk, hl⟩ => ?_
  have hl : l = posTo s k := hl
  have hk : k ≤ 9 := hk
  have hlen := posTo_len s k
  rw [← hl] at hlen
  by_cases hlt : k < 9
  · have hdv : s / 2 ^ k ≤ s := Nat.div_le_self _ _
    by_cases hc : (((s / 2 ^ k) &&& 1 : Nat) : Int) = 1
    · have hn : posTo s (k + 1) = l ++ [(k : Int)] := by
        rw [hl]; show (bif decide _ then _ else _) = _
        rw [decide_eq_true hc]; rfl
      rcases l with _ | ⟨x, l⟩
      · (repeat' (first | (with_reducible first | intro hg | refine mv (by constructor) ?_) | ((with_reducible first | refine zR ?_ ?_ | refine zW mixed ?_ ?_); exact kr) | ((with_reducible apply zK); exact rfl; exact tf) | ((with_reducible apply zCD); exact rfl) | ((with_reducible apply zCN); exact rfl) | ((with_reducible apply zC); exact rfl) | ((with_reducible refine zX ?_ ?_); exact rfl) | ((with_reducible refine zE (And.intro ?_ ?_)); exact kr) | (with_reducible refine zE ?_) | ((with_reducible apply zP); (first | exact o_shr (n := k) rfl rfl (by omega) (shrN s k) | exact o_andN (b := 1) rfl rfl (by omega) (by decide) | exact dp)) | ((with_reducible apply zN); exact dn) | ((with_reducible apply zA); exact da) | ((with_reducible apply zS); exact ds) | ((with_reducible apply zY); exact rfl; exact rfl; exact tf) | ((with_reducible apply zG); exact rfl; exact rfl; exact tf) | ((with_reducible apply zU); exact rfl; exact rfl) | ((with_reducible apply zD); exact rfl; exact rfl) | ((with_reducible apply zB); exact rfl; exact rfl)))
        exact ⟨(k + 1, [(k : Int)]), ⟨hlt, hn.symm⟩, by show 9 - (k + 1) < 9 - k; omega, (And.intro rfl (And.intro rfl (And.intro rfl trivial))), (And.intro rfl trivial)⟩
      · (repeat' (first | (with_reducible first | intro hg | refine mv (by constructor) ?_) | ((with_reducible first | refine zR ?_ ?_ | refine zW mixed ?_ ?_); exact kr) | ((with_reducible apply zK); exact rfl; exact tf) | ((with_reducible apply zCD); exact rfl) | ((with_reducible apply zCN); exact rfl) | ((with_reducible apply zC); exact rfl) | ((with_reducible refine zX ?_ ?_); exact rfl) | ((with_reducible refine zE (And.intro ?_ ?_)); exact kr) | (with_reducible refine zE ?_) | ((with_reducible apply zP); (first | exact o_shr (n := k) rfl rfl (by omega) (shrN s k) | exact o_andN (b := 1) rfl rfl (by omega) (by decide) | exact dp)) | ((with_reducible apply zN); exact dn) | ((with_reducible apply zA); exact da) | ((with_reducible apply zS); exact ds) | ((with_reducible apply zY); exact rfl; exact rfl; exact tf) | ((with_reducible apply zG); exact rfl; exact rfl; exact tf) | ((with_reducible apply zU); exact rfl; exact rfl) | ((with_reducible apply zD); exact rfl; exact rfl) | ((with_reducible apply zB); exact rfl; exact rfl)))
        exact ⟨(k + 1, x :: (l ++ [(k : Int)])), ⟨hlt, hn.symm⟩, by show 9 - (k + 1) < 9 - k; omega, (And.intro rfl (And.intro (ownL_snoc 16 x l _) (And.intro (rfl) trivial))), (And.intro (blkL_snoc _ x l _) trivial)⟩
    · have hn : posTo s (k + 1) = l := by
        rw [hl]; show (bif decide _ then _ else _) = _
        rw [decide_eq_false hc]; rfl
      rcases l with _ | ⟨x, l⟩
      · (repeat' (first | (with_reducible first | intro hg | refine mv (by constructor) ?_) | ((with_reducible first | refine zR ?_ ?_ | refine zW mixed ?_ ?_); exact kr) | ((with_reducible apply zK); exact rfl; exact tf) | ((with_reducible apply zCD); exact rfl) | ((with_reducible apply zCN); exact rfl) | ((with_reducible apply zC); exact rfl) | ((with_reducible refine zX ?_ ?_); exact rfl) | ((with_reducible refine zE (And.intro ?_ ?_)); exact kr) | (with_reducible refine zE ?_) | ((with_reducible apply zP); (first | exact o_shr (n := k) rfl rfl (by omega) (shrN s k) | exact o_andN (b := 1) rfl rfl (by omega) (by decide) | exact dp)) | ((with_reducible apply zN); exact dn) | ((with_reducible apply zA); exact da) | ((with_reducible apply zS); exact ds) | ((with_reducible apply zY); exact rfl; exact rfl; exact tf) | ((with_reducible apply zG); exact rfl; exact rfl; exact tf) | ((with_reducible apply zU); exact rfl; exact rfl) | ((with_reducible apply zD); exact rfl; exact rfl) | ((with_reducible apply zB); exact rfl; exact rfl)))
        exact ⟨(k + 1, []), ⟨hlt, hn.symm⟩, by show 9 - (k + 1) < 9 - k; omega, (And.intro rfl (And.intro rfl (And.intro rfl trivial))), trivial⟩
      · (repeat' (first | (with_reducible first | intro hg | refine mv (by constructor) ?_) | ((with_reducible first | refine zR ?_ ?_ | refine zW mixed ?_ ?_); exact kr) | ((with_reducible apply zK); exact rfl; exact tf) | ((with_reducible apply zCD); exact rfl) | ((with_reducible apply zCN); exact rfl) | ((with_reducible apply zC); exact rfl) | ((with_reducible refine zX ?_ ?_); exact rfl) | ((with_reducible refine zE (And.intro ?_ ?_)); exact kr) | (with_reducible refine zE ?_) | ((with_reducible apply zP); (first | exact o_shr (n := k) rfl rfl (by omega) (shrN s k) | exact o_andN (b := 1) rfl rfl (by omega) (by decide) | exact dp)) | ((with_reducible apply zN); exact dn) | ((with_reducible apply zA); exact da) | ((with_reducible apply zS); exact ds) | ((with_reducible apply zY); exact rfl; exact rfl; exact tf) | ((with_reducible apply zG); exact rfl; exact rfl; exact tf) | ((with_reducible apply zU); exact rfl; exact rfl) | ((with_reducible apply zD); exact rfl; exact rfl) | ((with_reducible apply zB); exact rfl; exact rfl)))
        exact ⟨(k + 1, x :: l), ⟨hlt, hn.symm⟩, by show 9 - (k + 1) < 9 - k; omega, (And.intro rfl (And.intro rfl (And.intro rfl trivial))), (And.intro rfl trivial)⟩
  · have hk9 : k = 9 := by omega
    rw [hk9] at hl
    rw [← hl] at hne ⊢
    refine awp_ownL 3 16 (t := 3) l rfl (fun x k hx => by subst hx; rfl) ?_
    (repeat' (first | (with_reducible first | intro hg | refine mv (by constructor) ?_) | ((with_reducible first | refine zR ?_ ?_ | refine zW mixed ?_ ?_); exact kr) | ((with_reducible apply zK); exact rfl; exact tf) | ((with_reducible apply zCD); exact rfl) | ((with_reducible apply zCN); exact rfl) | ((with_reducible apply zC); exact rfl) | ((with_reducible refine zX ?_ ?_); exact rfl) | ((with_reducible refine zE (And.intro ?_ ?_)); exact kr) | (with_reducible refine zE ?_) | ((with_reducible apply zP); exact dp) | ((with_reducible apply zN); exact dn) | ((with_reducible apply zA); exact da) | ((with_reducible apply zS); exact ds) | ((with_reducible apply zY); exact rfl; exact rfl; exact tf) | ((with_reducible apply zG); exact rfl; exact rfl; exact tf) | ((with_reducible apply zU); exact rfl; exact rfl) | ((with_reducible apply zD); exact rfl; exact rfl) | ((with_reducible apply zB); exact rfl; exact rfl)))
    ((with_reducible first | apply q_retR | apply q_retN); exact rl)
    rfl

end Go.Proofs.YtagpmpbmfjaiiaaGreatDoor
