/- Merged: XSh XSi XSj. -/
import Derived.Test.YtagpmpbmfjaiiaaGreatDoorSd
import Derived.Test.YtagpmpbmfjaiiaaGreatDoorSl
import Derived.Test.YtagpmpbmfjaiiaaGreatDoorSg
set_option linter.unusedVariables false
set_option linter.unusedSimpArgs false
/- The rules of a string, by the package. -/
namespace Go.Proofs.YtagpmpbmfjaiiaaGreatDoor
open Go.RowKit
set_option maxRecDepth 20000
set_option maxHeartbeats 8000000

end Go.Proofs.YtagpmpbmfjaiiaaGreatDoor

/- The rules of a string, by the reference; the profile of a string, by both; whether rules are the same. -/
namespace Go.Proofs.YtagpmpbmfjaiiaaGreatDoor
open Go.RowKit
set_option maxRecDepth 20000
set_option maxHeartbeats 8000000

theorem checkProfile_nil : AC Tryz.prog 58 [nilV] (I 10) := fun ok w vs hv hG => by
  obtain ⟨u, us, rfl, h1, h2⟩ := repL_cons.1 hv
  exact checkProfile_A [] (by decide) ok w (u :: us) (repL_cons'.2 ⟨rep_nilS h1, h2⟩)
/-- The profile of a string. -/
theorem parseProfile_A (s : List UInt8) (hs : s.length ≤ 60000) (res : DV) (h0 : parL false 6 s = none → res = .tuple [nilV, I 7])
    (h1 : ∀ p, parL false 6 s = some p → prE p = 0 → res = .tuple [isl p, I 0]) (h2 : ∀ p, parL false 6 s = some p → prE p ≠ 0 → res = .tuple [nilV, I (prE p)]) :
    AC Tryz.prog 14 [T8 s] res := by
  have hnb := fun r h0 h1 => fnumbers_A false s (by omega) r h0 h1
  cases hp : parL false 6 s with
  | none =>
    obtain rfl := h0 hp
    have hnb := hnb (.tuple [nilV, B false]) (fun _ => rfl) (fun l hl => by rw [hp] at hl; cases hl)
    have hck := checkProfile_nil
    refine ac_body Tryz.func14 rfl (by kernel_rfl) fun w0 ok => ?_; show AWp _ (ctx0 w0 ok _) _ (ARet _ _ _) (entry _)
    (repeat' (first | (with_reducible first | intro hg | refine mv (by constructor) ?_) | ((with_reducible first | refine zR ?_ ?_ | refine zW mixed ?_ ?_); exact kr) | ((with_reducible apply zK); exact rfl; exact tf) | ((with_reducible apply zCD); exact rfl) | ((with_reducible apply zCN); exact rfl) | ((with_reducible apply zC); exact rfl) | ((with_reducible refine zX ?_ ?_); exact rfl) | ((with_reducible refine zE (And.intro ?_ ?_)); exact kr) | (with_reducible refine zE ?_) | ((with_reducible apply zP); (first | exact o_lenT8 rfl | exact o_buildSlD rfl (by decide) rfl | exact dp | exact oc rfl (hnb) | exact oc rfl (hck) | exact oc rfl (unless_A _ _) | exact oc rfl (first2_A _ _))) | ((with_reducible apply zN); exact dn) | ((with_reducible apply zA); exact da) | ((with_reducible apply zS); exact ds) | ((with_reducible apply zY); exact rfl; exact rfl; exact tf) | ((with_reducible apply zG); exact rfl; exact rfl; exact tf) | ((with_reducible apply zU); exact rfl; exact rfl) | ((with_reducible apply zD); exact rfl; exact rfl) | ((with_reducible apply zB); exact rfl; exact rfl)))
    ((with_reducible first | apply q_retR | apply q_retN); exact rl)
    rfl
  | some p =>
    have hl := parL_len hp
    have hnb := hnb (.tuple [isl p, B true]) (fun h => by rw [hp] at h; cases h) (fun u hu => by rw [hp] at hu; injection hu with hu; rw [hu])
    have hck := checkProfile_A p (by omega)
    have h1 := h1 p hp
    have h2 := h2 p hp
    have hf : fst0 [unl true 7, prE p] = prE p := by
      show fst0 [0, prE p] = prE p
      rw [fst0_zero, fst0_one]
    generalize prE p = e at *
    by_cases he : e = 0
    · subst he
      obtain rfl := h1 rfl
      refine ac_body Tryz.func14 rfl (by kernel_rfl) fun w0 ok => ?_; show AWp _ (ctx0 w0 ok _) _ (ARet _ _ _) (entry _)
      (repeat' (first | (with_reducible first | intro hg | refine mv (by constructor) ?_) | ((with_reducible first | refine zR ?_ ?_ | refine zW mixed ?_ ?_); exact kr) | ((with_reducible apply zK); exact rfl; exact tf) | ((with_reducible apply zCD); exact rfl) | ((with_reducible apply zCN); exact rfl) | ((with_reducible apply zC); exact rfl) | ((with_reducible refine zX ?_ ?_); exact rfl) | ((with_reducible refine zE (And.intro ?_ ?_)); exact kr) | (with_reducible refine zE ?_) | ((with_reducible apply zP); (first | exact o_lenT8 rfl | exact o_buildSlD rfl (by decide) rfl | exact dp | exact oc rfl (hnb) | exact oc rfl (hck) | exact oc rfl (unless_A _ _) | exact oc rfl (first2_A _ _))) | ((with_reducible apply zN); exact dn) | ((with_reducible apply zA); exact da) | ((with_reducible apply zS); exact ds) | ((with_reducible apply zY); exact rfl; exact rfl; exact tf) | ((with_reducible apply zG); exact rfl; exact rfl; exact tf) | ((with_reducible apply zU); exact rfl; exact rfl) | ((with_reducible apply zD); exact rfl; exact rfl) | ((with_reducible apply zB); exact rfl; exact rfl)))
      ((with_reducible first | apply q_retR | apply q_retN); exact rl)
      rfl
    · obtain rfl := h2 he
      have hg : fst0 [unl true 7, e] ≠ 0 := by rw [hf]; exact he
      refine ac_body Tryz.func14 rfl (by kernel_rfl) fun w0 ok => ?_; show AWp _ (ctx0 w0 ok _) _ (ARet _ _ _) (entry _)
      (repeat' (first | (with_reducible first | intro hg | refine mv (by constructor) ?_) | ((with_reducible first | refine zR ?_ ?_ | refine zW mixed ?_ ?_); exact kr) | ((with_reducible apply zK); exact rfl; exact tf) | ((with_reducible apply zCD); exact rfl) | ((with_reducible apply zCN); exact rfl) | ((with_reducible apply zC); exact rfl) | ((with_reducible refine zX ?_ ?_); exact rfl) | ((with_reducible refine zE (And.intro ?_ ?_)); exact kr) | (with_reducible refine zE ?_) | ((with_reducible apply zP); (first | exact o_lenT8 rfl | exact o_buildSlD rfl (by decide) rfl | exact dp | exact oc rfl (hnb) | exact oc rfl (hck) | exact oc rfl (unless_A _ _) | exact oc rfl (first2_A _ _))) | ((with_reducible apply zN); exact dn) | ((with_reducible apply zA); exact da) | ((with_reducible apply zS); exact ds) | ((with_reducible apply zY); exact rfl; exact rfl; exact tf) | ((with_reducible apply zG); exact rfl; exact rfl; exact tf) | ((with_reducible apply zU); exact rfl; exact rfl) | ((with_reducible apply zD); exact rfl; exact rfl) | ((with_reducible apply zB); exact rfl; exact rfl)))
      ((with_reducible first | apply q_retR | apply q_retN); exact rl)
      exact congrArg (fun x => DV.tuple [nilV, I x]) hf.symm
end Go.Proofs.YtagpmpbmfjaiiaaGreatDoor

/- Whether rules are the same; what a string is parsed to, by both. -/
namespace Go.Proofs.YtagpmpbmfjaiiaaGreatDoor
open Go.RowKit
set_option maxRecDepth 20000
set_option maxHeartbeats 8000000

theorem ints_same (xs : List Int) (h : xs.length ≤ 140737488355328) : AC Tryz.prog 20 [isl xs, isl xs] (B true) := by
  have := ints_A xs xs h h
  rwa [decide_eq_true rfl] at this
theorem parse_fmtP (p : List Int) (h : prE p = 0) : AC Tryz.prog 14 [T8 (fmtL p)] (.tuple [isl p, I 0]) := by
  obtain ⟨h1, _, h3, h4⟩ := prE_ok h
  have e : parL false 6 (fmtL p) = some p := parL_fmt (by decide) (by rintro rfl; simp at h1) fun v hv => by
    have := h4 v hv
    refine ⟨?_, .inr (by omega)⟩
    show v.natAbs < 1000000
    omega
  have hlen := fmtL_len _ p rfl fun v hv => by have := h4 v hv; exact ⟨by omega, by omega⟩
  refine parseProfile_A _ (by omega) _ (fun h => by rw [e] at h; cases h) (fun q h _ => ?_) (fun q h h2 => ?_)
  · rw [e] at h; injection h with h; rw [h]
  · rw [e] at h; injection h with h; subst h; exact absurd ‹prE p = 0› h2

end Go.Proofs.YtagpmpbmfjaiiaaGreatDoor
