/- Contours: heights at positions, copies, wear: walks. -/
import Derived.Test.YtagpmpbmfjaiiaaGreatDoorTh
set_option linter.unusedVariables false
set_option linter.unusedSimpArgs false
namespace Go.Proofs.YtagpmpbmfjaiiaaGreatDoor
open Go.RowKit
set_option maxRecDepth 20000
set_option maxHeartbeats 8000000

theorem ptE_ok {last : Int} {p : Int × Int} (h : ptE last p = 0) : (0 ≤ p.1 ∧ p.1 ≤ 10000) ∧ (-100000 ≤ p.2 ∧ p.2 ≤ 100000) ∧ last < p.1 := by
  obtain ⟨h1, h⟩ := fst0_cons h
  obtain ⟨h2, _⟩ := fst0_cons h
  have h1 := unl_ok (by decide) h1
  simp only [Bool.and_eq_true] at h1
  exact ⟨inR_iff.1 h1.1, inR_iff.1 h1.2, of_decide_eq_true (unl_ok (by decide) h2)⟩
/-- A contour's points behind a position. -/
def CtOk : List (Int × Int) → Int → Prop
  | [], _ => True
  | p :: c, last => ((0 ≤ p.1 ∧ p.1 ≤ 10000) ∧ (-100000 ≤ p.2 ∧ p.2 ≤ 100000) ∧ last < p.1) ∧ CtOk c p.1
theorem ptsE_ok : ∀ {c : List (Int × Int)} {last : Int} {k : Nat}, (ptsE c last k).2 = 0 → CtOk c last
  | [], _, _, _ => trivial
  | p :: c, last, k, h => by
    by_cases hz : ptE last p = 0
    · rw [ptsE_zero hz] at h; exact ⟨ptE_ok hz, ptsE_ok h⟩
    · rw [ptsE_ne rfl hz] at h; exact absurd h hz
theorem contE_ok {c : List (Int × Int)} (h : (contE c).2 = 0) : 2 ≤ c.length ∧ c.length ≤ 10 ∧ CtOk c (-1) := by
  by_cases h0 : ctH c = 0
  · rw [contE_p h0] at h
    obtain ⟨h1, h2⟩ := fst0_cons h0
    obtain ⟨h2, _⟩ := fst0_cons h2
    have h1 := of_decide_eq_true (unl_ok (by decide) h1)
    have h2 := of_decide_eq_true (unl_ok (by decide) h2)
    exact ⟨by omega, by omega, ptsE_ok h⟩
  · rw [contE_h rfl h0] at h; exact absurd h h0
theorem CtOk.get : ∀ {c : List (Int × Int)} {last : Int}, CtOk c last → ∀ k, k < c.length → ((0 ≤ (c.getD k f0).1 ∧ (c.getD k f0).1 ≤ 10000) ∧ (-100000 ≤ (c.getD k f0).2 ∧ (c.getD k f0).2 ≤ 100000)) ∧ (k + 1 < c.length → (c.getD k f0).1 < (c.getD (k + 1) f0).1)
  | [], _, _, k, hk => by simp at hk
  | [p], _, h, 0, _ => ⟨⟨h.1.1, h.1.2.1⟩, fun h => by simp at h⟩
  | p :: q :: c, _, h, 0, _ => ⟨⟨h.1.1, h.1.2.1⟩, fun _ => h.2.1.2.2⟩
  | p :: c, _, h, k + 1, hk => by
    have := CtOk.get h.2 k (by simpa using hk)
    exact ⟨this.1, fun h => this.2 (by simpa using h)⟩
/-- The numerator of a height between two points; the height at a position, or the error. -/
def htN (a b : Int × Int) (t : Int) : Int := a.2 * (b.1 - a.1) + (b.2 - a.2) * (t - a.1)
def htL (t : Int) : List (Int × Int) → (Int × Int) × Int
  | a :: b :: c => bif inR t a.1 b.1 then (low (htN a b t) (b.1 - a.1), 0) else htL t (b :: c)
  | _ => ((0, 0), 21)
theorem htL_in {t : Int} {a b : Int × Int} {c : List (Int × Int)} (h : inR t a.1 b.1 = true) : htL t (a :: b :: c) = (low (htN a b t) (b.1 - a.1), 0) := by
  show (bif inR t a.1 b.1 then _ else _) = _; rw [h]; rfl
theorem htL_out {t : Int} {a b : Int × Int} {c : List (Int × Int)} (h : inR t a.1 b.1 = false) : htL t (a :: b :: c) = htL t (b :: c) := by
  show (bif inR t a.1 b.1 then _ else _) = _; rw [h]; rfl
theorem drop_two {p : Int × Int} {c : List (Int × Int)} {k : Nat} (h : k < c.length) : (p :: c).drop k = (p :: c).getD k f0 :: c.getD k f0 :: c.drop (k + 1) := by
  rw [drop_getF (L := p :: c) (by rw [List.length_cons]; omega), List.drop_succ_cons, drop_getF h]
theorem drop_oneF {p : Int × Int} {c : List (Int × Int)} {k : Nat} (h : k < c.length) : (p :: c).drop (k + 1) = c.getD k f0 :: c.drop (k + 1) := by
  rw [List.drop_succ_cons, drop_getF h]
theorem two_bnd {p : Int × Int} {c : List (Int × Int)} (h : CtOk (p :: c) (-1)) {k : Nat} (hk : k < c.length) : ((0 ≤ ((p :: c).getD k f0).1 ∧ ((p :: c).getD k f0).1 ≤ 10000) ∧ (-100000 ≤ ((p :: c).getD k f0).2 ∧ ((p :: c).getD k f0).2 ≤ 100000)) ∧ ((0 ≤ (c.getD k f0).1 ∧ (c.getD k f0).1 ≤ 10000) ∧ (-100000 ≤ (c.getD k f0).2 ∧ (c.getD k f0).2 ≤ 100000)) ∧ ((p :: c).getD k f0).1 < (c.getD k f0).1 := by
  have h1 := h.get k (by rw [List.length_cons]; omega)
  have h2 := h.get (k + 1) (by rw [List.length_cons]; omega)
  exact ⟨h1.1, h2.1, h1.2 (by rw [List.length_cons]; omega)⟩
theorem heightAt_err (c : List (Int × Int)) (t : Int) (hm : c.length ≤ 140737488355328) (h : (contE c).2 ≠ 0) : AC Tryz.prog 31 [frS c, I t] (.tuple [F2 (0, 0), I (contE c).2]) := by
  have hk := checkContour_A c hm
  refine ac_body Tryz.func31 rfl (by kernel_rfl) fun w0 ok => ?_; show AWp _ (ctx0 w0 ok _) _ (ARet _ _ _) (entry _)
  (repeat' (first | (with_reducible first | intro hg | refine mv (by constructor) ?_) | ((with_reducible first | refine zR ?_ ?_ | refine zW mixed ?_ ?_); exact kr) | ((with_reducible apply zK); exact rfl; exact tf) | ((with_reducible apply zCD); exact rfl) | ((with_reducible apply zCN); exact rfl) | ((with_reducible apply zC); exact rfl) | ((with_reducible refine zX ?_ ?_); exact rfl) | ((with_reducible refine zE (And.intro ?_ ?_)); exact kr) | (with_reducible refine zE ?_) | ((with_reducible apply zP); (first | exact dp | exact oc rfl (hk))) | ((with_reducible apply zN); exact dn) | ((with_reducible apply zA); exact da) | ((with_reducible apply zS); exact ds) | ((with_reducible apply zY); exact rfl; exact rfl; exact tf) | ((with_reducible apply zG); exact rfl; exact rfl; exact tf) | ((with_reducible apply zU); exact rfl; exact rfl) | ((with_reducible apply zD); exact rfl; exact rfl) | ((with_reducible apply zB); exact rfl; exact rfl)))
  ((with_reducible first | apply q_retR | apply q_retN); exact rl)
  rfl
theorem heightAt_A (c : List (Int × Int)) (t : Int) (h : (contE c).2 = 0) : AC Tryz.prog 31 [frS c, I t] (.tuple [F2 (htL t c).1, I (htL t c).2]) := by
  obtain ⟨h2, h10, hc⟩ := contE_ok h
  have hk := checkContour_A c (by omega)
  rw [h] at hk
  rcases c with _ | ⟨p, c⟩
  · simp at h2
  have hlen : (p :: c).length = c.length + 1 := rfl
  refine ac_body Tryz.func31 rfl (by kernel_rfl) fun w0 ok => ?_; show AWp _ (ctx0 w0 ok _) _ (ARet _ _ _) (entry _)
  (repeat' (first | (with_reducible first | intro hg | refine mv (by constructor) ?_) | ((with_reducible first | refine zR ?_ ?_ | refine zW mixed ?_ ?_); exact kr) | ((with_reducible apply zK); exact rfl; exact tf) | ((with_reducible apply zCD); exact rfl) | ((with_reducible apply zCN); exact rfl) | ((with_reducible apply zC); exact rfl) | ((with_reducible refine zX ?_ ?_); exact rfl) | ((with_reducible refine zE (And.intro ?_ ?_)); exact kr) | (with_reducible refine zE ?_) | ((with_reducible apply zP); (first | exact o_sliceF1 rfl rfl rfl | exact dp | exact oc rfl (hk))) | ((with_reducible apply zN); exact dn) | ((with_reducible apply zA); exact da) | ((with_reducible apply zS); exact ds) | ((with_reducible apply zY); exact rfl; exact rfl; exact tf) | ((with_reducible apply zG); exact rfl; exact rfl; exact tf) | ((with_reducible apply zU); exact rfl; exact rfl) | ((with_reducible apply zD); exact rfl; exact rfl) | ((with_reducible apply zB); exact rfl; exact rfl)))
  refine awp_loopL (α := Nat) (fun k => [(0, .d (frS (p :: c))), (1, .d (I t)), (4, .ptr 4 0), (22, .d (frS c)), (23, .d (I c.length)), (24, .d (I k))]) (fun _ => [(4, ⟨63, [I 0, I 0]⟩)]) (fun k => k ≤ c.length ∧ htL t (p :: c) = htL t ((p :: c).drop k)) (fun k => c.length - k) 0 ⟨Nat.zero_le _, rfl⟩ (And.intro rfl (And.intro rfl (And.intro rfl (And.intro rfl (And.intro rfl (And.intro rfl trivial)))))) (And.intro rfl trivial) fun k ⟨hk, hd⟩ => ?_
  by_cases hlt : k < c.length
  rotate_left
  · obtain rfl : k = c.length := by omega
    rw [hd]
    have e : (p :: c).drop c.length = [(p :: c).getD c.length f0] := by
      rw [drop_getF (L := p :: c) (by rw [List.length_cons]; omega), List.drop_of_length_le (by rw [List.length_cons]; omega)]
    rw [e]
    (repeat' (first | (with_reducible first | intro hg | refine mv (by constructor) ?_) | ((with_reducible first | refine zR ?_ ?_ | refine zW mixed ?_ ?_); exact kr) | ((with_reducible apply zK); exact rfl; exact tf) | ((with_reducible apply zCD); exact rfl) | ((with_reducible apply zCN); exact rfl) | ((with_reducible apply zC); exact rfl) | ((with_reducible refine zX ?_ ?_); exact rfl) | ((with_reducible refine zE (And.intro ?_ ?_)); exact kr) | (with_reducible refine zE ?_) | ((with_reducible apply zP); exact dp) | ((with_reducible apply zN); exact dn) | ((with_reducible apply zA); exact da) | ((with_reducible apply zS); exact ds) | ((with_reducible apply zY); exact rfl; exact rfl; exact tf) | ((with_reducible apply zG); exact rfl; exact rfl; exact tf) | ((with_reducible apply zU); exact rfl; exact rfl) | ((with_reducible apply zD); exact rfl; exact rfl) | ((with_reducible apply zB); exact rfl; exact rfl)))
    ((with_reducible first | apply q_retR | apply q_retN); exact rl)
    rfl
  have hb := two_bnd hc hlt
  rw [drop_two hlt] at hd
  have hw := within_A t ((p :: c).getD k f0).1 (c.getD k f0).1
  cases hq : inR t ((p :: c).getD k f0).1 (c.getD k f0).1
  · rw [hq] at hw
    rw [htL_out hq, ← drop_oneF hlt] at hd
    (repeat' (first | (with_reducible first | intro hg | refine mv (by constructor) ?_) | ((with_reducible first | refine zR ?_ ?_ | refine zW mixed ?_ ?_); exact kr) | ((with_reducible apply zK); exact rfl; exact tf) | ((with_reducible apply zCD); exact rfl) | ((with_reducible apply zCN); exact rfl) | ((with_reducible apply zC); exact rfl) | ((with_reducible refine zX ?_ ?_); exact rfl) | ((with_reducible refine zE (And.intro ?_ ?_)); exact kr) | (with_reducible refine zE ?_) | ((with_reducible apply zP); (first | exact o_indexF f0 frC_len (by decide) rfl rfl (by omega) rfl | exact dp | exact oc rfl (hw))) | ((with_reducible apply zN); exact dn) | ((with_reducible apply zA); exact da) | ((with_reducible apply zS); exact ds) | ((with_reducible apply zY); exact rfl; exact rfl; exact tf) | ((with_reducible apply zG); exact rfl; exact rfl; exact tf) | ((with_reducible apply zU); exact rfl; exact rfl) | ((with_reducible apply zD); exact rfl; exact rfl) | ((with_reducible apply zB); exact rfl; exact rfl)))
    exact ⟨k + 1, ⟨hlt, hd⟩, by omega, (And.intro rfl (And.intro rfl (And.intro rfl (And.intro rfl (And.intro rfl (And.intro rfl trivial)))))), (And.intro rfl trivial)⟩
  · rw [hq] at hw
    rw [htL_in hq] at hd
    rw [hd]
    obtain ⟨q1, q2⟩ := inR_iff.1 hq
    have m1 := mul_rng (x := ((p :: c).getD k f0).2) (e := (c.getD k f0).1 - ((p :: c).getD k f0).1) 100000 10000 (by omega) (by omega)
    have m2 := mul_rng (x := (c.getD k f0).2 - ((p :: c).getD k f0).2) (e := t - ((p :: c).getD k f0).1) 200000 10000 (by omega) (by omega)
    have hlow := lowest_A (((p :: c).getD k f0).2 * ((c.getD k f0).1 - ((p :: c).getD k f0).1) + ((c.getD k f0).2 - ((p :: c).getD k f0).2) * (t - ((p :: c).getD k f0).1)) ((c.getD k f0).1 - ((p :: c).getD k f0).1) ⟨by omega, by omega⟩ (by omega) (by omega)
    (repeat' (first | (with_reducible first | intro hg | refine mv (by constructor) ?_) | ((with_reducible first | refine zR ?_ ?_ | refine zW mixed ?_ ?_); exact kr) | ((with_reducible apply zK); exact rfl; exact tf) | ((with_reducible apply zCD); exact rfl) | ((with_reducible apply zCN); exact rfl) | ((with_reducible apply zC); exact rfl) | ((with_reducible refine zX ?_ ?_); exact rfl) | ((with_reducible refine zE (And.intro ?_ ?_)); exact kr) | (with_reducible refine zE ?_) | ((with_reducible apply zP); (first | exact o_indexF f0 frC_len (by decide) rfl rfl (by omega) rfl | exact dp | exact oc rfl (hw) | exact oc rfl (hlow))) | ((with_reducible apply zN); exact dn) | ((with_reducible apply zA); exact da) | ((with_reducible apply zS); exact ds) | ((with_reducible apply zY); exact rfl; exact rfl; exact tf) | ((with_reducible apply zG); exact rfl; exact rfl; exact tf) | ((with_reducible apply zU); exact rfl; exact rfl) | ((with_reducible apply zD); exact rfl; exact rfl) | ((with_reducible apply zB); exact rfl; exact rfl)))
    ((with_reducible first | apply q_retR | apply q_retN); exact rl)
    rfl
/-! Copies. -/
theorem copyContour_A (L : List (Int × Int)) (hm : L.length ≤ 1000000) : AC Tryz.prog 27 [frS L] (frS L) := by
  by_cases hne : L = []
  · subst hne
    refine ac_body Tryz.func27 rfl (by kernel_rfl) fun w0 ok => ?_; show AWp _ (ctx0 w0 ok _) _ (ARet _ _ _) (entry _)
    (repeat' (first | (with_reducible first | intro hg | refine mv (by constructor) ?_) | ((with_reducible first | refine zR ?_ ?_ | refine zW mixed ?_ ?_); exact kr) | ((with_reducible apply zK); exact rfl; exact tf) | ((with_reducible apply zCD); exact rfl) | ((with_reducible apply zCN); exact rfl) | ((with_reducible apply zC); exact rfl) | ((with_reducible refine zX ?_ ?_); exact rfl) | ((with_reducible refine zE (And.intro ?_ ?_)); exact kr) | (with_reducible refine zE ?_) | ((with_reducible apply zP); exact dp) | ((with_reducible apply zN); exact dn) | ((with_reducible apply zA); exact da) | ((with_reducible apply zS); exact ds) | ((with_reducible apply zY); exact rfl; exact rfl; exact tf) | ((with_reducible apply zG); exact rfl; exact rfl; exact tf) | ((with_reducible apply zU); exact rfl; exact rfl) | ((with_reducible apply zD); exact rfl; exact rfl) | ((with_reducible apply zB); exact rfl; exact rfl)))
    ((with_reducible first | apply q_retR | apply q_retN); exact rl)
    rfl
  · have hpos : 0 < L.length := List.length_pos_iff.2 hne
    have hl := frK_len L
    have hn2 := frK_ne hne
    refine ac_body Tryz.func27 rfl (by kernel_rfl) fun w0 ok => ?_; show AWp _ (ctx0 w0 ok _) _ (ARet _ _ _) (entry _)
    (repeat' (first | (with_reducible first | intro hg | refine mv (by constructor) ?_) | ((with_reducible first | refine zR ?_ ?_ | refine zW mixed ?_ ?_); exact kr) | ((with_reducible apply zK); exact rfl; exact tf) | ((with_reducible apply zCD); exact rfl) | ((with_reducible apply zCN); exact rfl) | ((with_reducible apply zC); exact rfl) | ((with_reducible refine zX ?_ ?_); exact rfl) | ((with_reducible refine zE (And.intro ?_ ?_)); exact kr) | (with_reducible refine zE ?_) | ((with_reducible apply zP); exact dp) | ((with_reducible apply zN); exact dn) | ((with_reducible apply zA); (first | ((apply o_app); (case hx => exact rfl); (case hm => exact rfl); (case hy => exact .own rfl rfl); (case hty => exact rfl); (case hl => solve | exact hl | rfl); (case hcl => solve | rfl | exact hl | simp); (case hpos => omega); (case hb => omega); (case hb2 => omega); (case hnew => exact rfl)) | ((apply o_app); (case hx => exact rfl); (case hm => exact rfl); (case hy => exact .sl rfl); (case hty => exact rfl); (case hl => solve | exact hl | rfl); (case hcl => solve | rfl | exact hl | simp); (case hpos => omega); (case hb => omega); (case hb2 => omega); (case hnew => exact rfl)) | exact da)) | ((with_reducible apply zS); exact ds) | ((with_reducible apply zY); exact rfl; exact rfl; exact tf) | ((with_reducible apply zG); exact rfl; exact rfl; exact tf) | ((with_reducible apply zU); exact rfl; exact rfl) | ((with_reducible apply zD); exact rfl; exact rfl) | ((with_reducible apply zB); exact rfl; exact rfl)))
    ((with_reducible first | apply q_retR | apply q_retN); exact rl)
    have e : ((([] ++ frK L).drop 0).take ((0 + L.length) * 2)) = frK L := by rw [List.nil_append, List.drop_zero, List.take_of_length_le (by omega)]
    show DV.slice L.length (frK L) = DV.slice (0 + L.length) ((([] ++ frK L).drop 0).take ((0 + L.length) * 2))
    rw [e, Nat.zero_add]
theorem copyContour_O (L : List (Int × Int)) (hm : L.length ≤ 1000000) (hne : L ≠ []) : ACo Tryz.prog 27 [frS L] 54 L.length 2 (frK L) := by
  suffices h : ACo Tryz.prog 27 [frS L] 54 (0 + L.length) 2 (frK L) by rwa [Nat.zero_add] at h
  have hpos : 0 < L.length := List.length_pos_iff.2 hne
  have hl := frK_len L
  have hn2 := frK_ne hne
  refine aco_body Tryz.func27 rfl (by kernel_rfl) fun w0 ok => ?_; show AWp _ (ctx0 w0 ok _) _ (ARetO _ _ _ _ _) (entry _)
  (repeat' (first | (with_reducible first | intro hg | refine mv (by constructor) ?_) | ((with_reducible first | refine zR ?_ ?_ | refine zW mixed ?_ ?_); exact kr) | ((with_reducible apply zK); exact rfl; exact tf) | ((with_reducible apply zCD); exact rfl) | ((with_reducible apply zCN); exact rfl) | ((with_reducible apply zC); exact rfl) | ((with_reducible refine zX ?_ ?_); exact rfl) | ((with_reducible refine zE (And.intro ?_ ?_)); exact kr) | (with_reducible refine zE ?_) | ((with_reducible apply zP); exact dp) | ((with_reducible apply zN); exact dn) | ((with_reducible apply zA); (first | ((apply o_app); (case hx => exact rfl); (case hm => exact rfl); (case hy => exact .own rfl rfl); (case hty => exact rfl); (case hl => solve | exact hl | rfl); (case hcl => solve | rfl | exact hl | simp); (case hpos => omega); (case hb => omega); (case hb2 => omega); (case hnew => exact rfl)) | ((apply o_app); (case hx => exact rfl); (case hm => exact rfl); (case hy => exact .sl rfl); (case hty => exact rfl); (case hl => solve | exact hl | rfl); (case hcl => solve | rfl | exact hl | simp); (case hpos => omega); (case hb => omega); (case hb2 => omega); (case hnew => exact rfl)) | exact da)) | ((with_reducible apply zS); exact ds) | ((with_reducible apply zY); exact rfl; exact rfl; exact tf) | ((with_reducible apply zG); exact rfl; exact rfl; exact tf) | ((with_reducible apply zU); exact rfl; exact rfl) | ((with_reducible apply zD); exact rfl; exact rfl) | ((with_reducible apply zB); exact rfl; exact rfl)))
  ((with_reducible first | apply q_retO | apply q_retON); exact rfl; exact rfl; exact rfl)
theorem clonePt_A (L : List (Int × Int)) (hm : L.length ≤ 1000000) (hne : L ≠ []) : ACo Tryz.prog 65 [frS L] 54 L.length 2 (frK L) := by
  suffices h : ACo Tryz.prog 65 [frS L] 54 (0 + L.length) 2 (frK L) by rwa [Nat.zero_add] at h
  have hpos : 0 < L.length := List.length_pos_iff.2 hne
  have hl := frK_len L
  have hn2 := frK_ne hne
  refine aco_body Tryz.func65 rfl (by kernel_rfl) fun w0 ok => ?_; show AWp _ (ctx0 w0 ok _) _ (ARetO _ _ _ _ _) (entry _)
  (repeat' (first | (with_reducible first | intro hg | refine mv (by constructor) ?_) | ((with_reducible first | refine zR ?_ ?_ | refine zW mixed ?_ ?_); exact kr) | ((with_reducible apply zK); exact rfl; exact tf) | ((with_reducible apply zCD); exact rfl) | ((with_reducible apply zCN); exact rfl) | ((with_reducible apply zC); exact rfl) | ((with_reducible refine zX ?_ ?_); exact rfl) | ((with_reducible refine zE (And.intro ?_ ?_)); exact kr) | (with_reducible refine zE ?_) | ((with_reducible apply zP); exact dp) | ((with_reducible apply zN); exact dn) | ((with_reducible apply zA); (first | ((apply o_app); (case hx => exact rfl); (case hm => exact rfl); (case hy => exact .own rfl rfl); (case hty => exact rfl); (case hl => solve | exact hl | rfl); (case hcl => solve | rfl | exact hl | simp); (case hpos => omega); (case hb => omega); (case hb2 => omega); (case hnew => exact rfl)) | ((apply o_app); (case hx => exact rfl); (case hm => exact rfl); (case hy => exact .sl rfl); (case hty => exact rfl); (case hl => solve | exact hl | rfl); (case hcl => solve | rfl | exact hl | simp); (case hpos => omega); (case hb => omega); (case hb2 => omega); (case hnew => exact rfl)) | exact da)) | ((with_reducible apply zS); exact ds) | ((with_reducible apply zY); exact rfl; exact rfl; exact tf) | ((with_reducible apply zG); exact rfl; exact rfl; exact tf) | ((with_reducible apply zU); exact rfl; exact rfl) | ((with_reducible apply zD); exact rfl; exact rfl) | ((with_reducible apply zB); exact rfl; exact rfl)))
  ((with_reducible first | apply q_retO | apply q_retON); exact rfl; exact rfl; exact rfl)
abbrev stK (L : List Strp) : List DV := (L.map strC).flatten
abbrev stS (L : List Strp) : DV := .slice L.length (stK L)
theorem strC_len (s : Strp) : (strC s).length = 3 := rfl
theorem stK_len (L : List Strp) : (stK L).length = L.length * 3 := flat_len strC 3 strC_len L
abbrev s0 : Strp := ⟨0, 0, 0⟩
theorem copyStrips_A (L : List Strp) (hm : L.length ≤ 1000000) : AC Tryz.prog 28 [stS L] (stS L) := by
  have hl := stK_len L
  by_cases hne : L = []
  · subst hne
    refine ac_body Tryz.func28 rfl (by kernel_rfl) fun w0 ok => ?_; show AWp _ (ctx0 w0 ok _) _ (ARet _ _ _) (entry _)
    (repeat' (first | (with_reducible first | intro hg | refine mv (by constructor) ?_) | ((with_reducible first | refine zR ?_ ?_ | refine zW mixed ?_ ?_); exact kr) | ((with_reducible apply zK); exact rfl; exact tf) | ((with_reducible apply zCD); exact rfl) | ((with_reducible apply zCN); exact rfl) | ((with_reducible apply zC); exact rfl) | ((with_reducible refine zX ?_ ?_); exact rfl) | ((with_reducible refine zE (And.intro ?_ ?_)); exact kr) | (with_reducible refine zE ?_) | ((with_reducible apply zP); exact dp) | ((with_reducible apply zN); exact dn) | ((with_reducible apply zA); exact da) | ((with_reducible apply zS); exact ds) | ((with_reducible apply zY); exact rfl; exact rfl; exact tf) | ((with_reducible apply zG); exact rfl; exact rfl; exact tf) | ((with_reducible apply zU); exact rfl; exact rfl) | ((with_reducible apply zD); exact rfl; exact rfl) | ((with_reducible apply zB); exact rfl; exact rfl)))
    ((with_reducible first | apply q_retR | apply q_retN); exact rl)
    rfl
  · have hpos : 0 < L.length := List.length_pos_iff.2 hne
    have hn2 : stK L ≠ [] := fun e => by rw [e] at hl; simp at hl; omega
    refine ac_body Tryz.func28 rfl (by kernel_rfl) fun w0 ok => ?_; show AWp _ (ctx0 w0 ok _) _ (ARet _ _ _) (entry _)
    (repeat' (first | (with_reducible first | intro hg | refine mv (by constructor) ?_) | ((with_reducible first | refine zR ?_ ?_ | refine zW mixed ?_ ?_); exact kr) | ((with_reducible apply zK); exact rfl; exact tf) | ((with_reducible apply zCD); exact rfl) | ((with_reducible apply zCN); exact rfl) | ((with_reducible apply zC); exact rfl) | ((with_reducible refine zX ?_ ?_); exact rfl) | ((with_reducible refine zE (And.intro ?_ ?_)); exact kr) | (with_reducible refine zE ?_) | ((with_reducible apply zP); exact dp) | ((with_reducible apply zN); exact dn) | ((with_reducible apply zA); (first | ((apply o_app); (case hx => exact rfl); (case hm => exact rfl); (case hy => exact .own rfl rfl); (case hty => exact rfl); (case hl => solve | exact hl | rfl); (case hcl => solve | rfl | exact hl | simp); (case hpos => omega); (case hb => omega); (case hb2 => omega); (case hnew => exact rfl)) | ((apply o_app); (case hx => exact rfl); (case hm => exact rfl); (case hy => exact .sl rfl); (case hty => exact rfl); (case hl => solve | exact hl | rfl); (case hcl => solve | rfl | exact hl | simp); (case hpos => omega); (case hb => omega); (case hb2 => omega); (case hnew => exact rfl)) | exact da)) | ((with_reducible apply zS); exact ds) | ((with_reducible apply zY); exact rfl; exact rfl; exact tf) | ((with_reducible apply zG); exact rfl; exact rfl; exact tf) | ((with_reducible apply zU); exact rfl; exact rfl) | ((with_reducible apply zD); exact rfl; exact rfl) | ((with_reducible apply zB); exact rfl; exact rfl)))
    ((with_reducible first | apply q_retR | apply q_retN); exact rl)
    have e : ((([] ++ stK L).drop 0).take ((0 + L.length) * 3)) = stK L := by rw [List.nil_append, List.drop_zero, List.take_of_length_le (by omega)]
    show DV.slice L.length (stK L) = DV.slice (0 + L.length) ((([] ++ stK L).drop 0).take ((0 + L.length) * 3))
    rw [e, Nat.zero_add]
theorem sameContour_A (L : List (Int × Int)) (hm : L.length ≤ 1000000) : AC Tryz.prog 30 [frS L, frS L] (B true) := by
  refine ac_body Tryz.func30 rfl (by kernel_rfl) fun w0 ok => ?_; show AWp _ (ctx0 w0 ok _) _ (ARet _ _ _) (entry _)
  (repeat' (first | (with_reducible first | intro hg | refine mv (by constructor) ?_) | ((with_reducible first | refine zR ?_ ?_ | refine zW mixed ?_ ?_); exact kr) | ((with_reducible apply zK); exact rfl; exact tf) | ((with_reducible apply zCD); exact rfl) | ((with_reducible apply zCN); exact rfl) | ((with_reducible apply zC); exact rfl) | ((with_reducible refine zX ?_ ?_); exact rfl) | ((with_reducible refine zE (And.intro ?_ ?_)); exact kr) | (with_reducible refine zE ?_) | ((with_reducible apply zP); exact dp) | ((with_reducible apply zN); exact dn) | ((with_reducible apply zA); exact da) | ((with_reducible apply zS); exact ds) | ((with_reducible apply zY); exact rfl; exact rfl; exact tf) | ((with_reducible apply zG); exact rfl; exact rfl; exact tf) | ((with_reducible apply zU); exact rfl; exact rfl) | ((with_reducible apply zD); exact rfl; exact rfl) | ((with_reducible apply zB); exact rfl; exact rfl)))
  refine awp_loopL (α := Nat) (fun k => [(0, .d (frS L)), (1, .d (frS L)), (5, .d (I k))]) (fun _ => []) (fun k => k ≤ L.length) (fun k => L.length - k) 0 (Nat.zero_le _) (And.intro rfl (And.intro rfl (And.intro rfl trivial))) trivial fun k hk => ?_
  by_cases hlt : k < L.length
  · (repeat' (first | (with_reducible first | intro hg | refine mv (by constructor) ?_) | ((with_reducible first | refine zR ?_ ?_ | refine zW mixed ?_ ?_); exact kr) | ((with_reducible apply zK); exact rfl; exact tf) | ((with_reducible apply zCD); exact rfl) | ((with_reducible apply zCN); exact rfl) | ((with_reducible apply zC); exact rfl) | ((with_reducible refine zX ?_ ?_); exact rfl) | ((with_reducible refine zE (And.intro ?_ ?_)); exact kr) | (with_reducible refine zE ?_) | ((with_reducible apply zP); (first | exact o_indexF f0 frC_len (by decide) rfl rfl (by omega) rfl | exact dp)) | ((with_reducible apply zN); exact dn) | ((with_reducible apply zA); exact da) | ((with_reducible apply zS); exact ds) | ((with_reducible apply zY); exact rfl; exact rfl; exact tf) | ((with_reducible apply zG); exact rfl; exact rfl; exact tf) | ((with_reducible apply zU); exact rfl; exact rfl) | ((with_reducible apply zD); exact rfl; exact rfl) | ((with_reducible apply zB); exact rfl; exact rfl)))
    · exact absurd rfl hg
    · exact ⟨k + 1, hlt, by omega, (And.intro rfl (And.intro rfl (And.intro rfl trivial))), trivial⟩
  · (repeat' (first | (with_reducible first | intro hg | refine mv (by constructor) ?_) | ((with_reducible first | refine zR ?_ ?_ | refine zW mixed ?_ ?_); exact kr) | ((with_reducible apply zK); exact rfl; exact tf) | ((with_reducible apply zCD); exact rfl) | ((with_reducible apply zCN); exact rfl) | ((with_reducible apply zC); exact rfl) | ((with_reducible refine zX ?_ ?_); exact rfl) | ((with_reducible refine zE (And.intro ?_ ?_)); exact kr) | (with_reducible refine zE ?_) | ((with_reducible apply zP); exact dp) | ((with_reducible apply zN); exact dn) | ((with_reducible apply zA); exact da) | ((with_reducible apply zS); exact ds) | ((with_reducible apply zY); exact rfl; exact rfl; exact tf) | ((with_reducible apply zG); exact rfl; exact rfl; exact tf) | ((with_reducible apply zU); exact rfl; exact rfl) | ((with_reducible apply zD); exact rfl; exact rfl) | ((with_reducible apply zB); exact rfl; exact rfl)))
    ((with_reducible first | apply q_retR | apply q_retN); exact rl)
    rfl
theorem sameContour_nil : AC Tryz.prog 30 [nilV, nilV] (B true) := by
  refine ac_body Tryz.func30 rfl (by kernel_rfl) fun w0 ok => ?_; show AWp _ (ctx0 w0 ok _) _ (ARet _ _ _) (entry _)
  (repeat' (first | (with_reducible first | intro hg | refine mv (by constructor) ?_ | refine awp_loopU ?_ | refine awpL_step ?_) | ((with_reducible first | refine zR ?_ ?_ | refine zW mixed ?_ ?_); exact kr) | ((with_reducible apply zK); exact rfl; exact tf) | ((with_reducible apply zCD); exact rfl) | ((with_reducible apply zCN); exact rfl) | ((with_reducible apply zC); exact rfl) | ((with_reducible refine zX ?_ ?_); exact rfl) | ((with_reducible refine zE (And.intro ?_ ?_)); exact kr) | (with_reducible refine zE ?_) | ((with_reducible apply zP); exact dp) | ((with_reducible apply zN); exact dn) | ((with_reducible apply zA); exact da) | ((with_reducible apply zS); exact ds) | ((with_reducible apply zY); exact rfl; exact rfl; exact tf) | ((with_reducible apply zG); exact rfl; exact rfl; exact tf) | ((with_reducible apply zU); exact rfl; exact rfl) | ((with_reducible apply zD); exact rfl; exact rfl) | ((with_reducible apply zB); exact rfl; exact rfl)))
  ((with_reducible first | apply q_retR | apply q_retN); exact rl)
  rfl

/-! Strips. -/
abbrev stV (s : Strp) : DV := .agg [I s.lo, I s.hi, I s.wear]
def stpE (s : Strp) : Int := fst0 [unl (inR s.lo 0 10000 && inR s.hi 0 10000) 2, unl (decide (s.lo ≤ s.hi)) 9, unl (inR s.wear 0 1000) 2]
theorem stripErr_A (s : Strp) : AC Tryz.prog 66 [stV s] (I (stpE s)) := by
  have h1 := isAt_A s.lo
  have h2 := isAt_A s.hi
  have h3 := within_A s.wear 0 1000
  have he : stpE s = fst0 [unl (inR s.lo 0 10000 && inR s.hi 0 10000) 2, unl (decide (s.lo ≤ s.hi)) 9, unl (inR s.wear 0 1000) 2] := rfl
  rw [he]
  cases hq : inR s.lo 0 10000
  all_goals
    rw [hq] at h1
    refine ac_body Tryz.func66 rfl (by kernel_rfl) fun w0 ok => ?_; show AWp _ (ctx0 w0 ok _) _ (ARet _ _ _) (entry _)
    (repeat' (first | (with_reducible first | intro hg | refine mv (by constructor) ?_) | ((with_reducible first | refine zR ?_ ?_ | refine zW mixed ?_ ?_); exact kr) | ((with_reducible apply zK); exact rfl; exact tf) | ((with_reducible apply zCD); exact rfl) | ((with_reducible apply zCN); exact rfl) | ((with_reducible apply zC); exact rfl) | ((with_reducible refine zX ?_ ?_); exact rfl) | ((with_reducible refine zE (And.intro ?_ ?_)); exact kr) | (with_reducible refine zE ?_) | ((with_reducible apply zP); (first | exact dp | exact oc rfl (h1) | exact oc rfl (h2) | exact oc rfl (h3) | exact oc rfl (unless_A _ _) | exact oc rfl (first3_A _ _ _))) | ((with_reducible apply zN); exact dn) | ((with_reducible apply zA); exact da) | ((with_reducible apply zS); exact ds) | ((with_reducible apply zY); exact rfl; exact rfl; exact tf) | ((with_reducible apply zG); exact rfl; exact rfl; exact tf) | ((with_reducible apply zU); exact rfl; exact rfl) | ((with_reducible apply zD); exact rfl; exact rfl) | ((with_reducible apply zB); exact rfl; exact rfl)))
    ((with_reducible first | apply q_retR | apply q_retN); exact rl)
    rfl
theorem stpE_ok {s : Strp} (h : stpE s = 0) : (0 ≤ s.lo ∧ s.lo ≤ 10000) ∧ (0 ≤ s.hi ∧ s.hi ≤ 10000) ∧ s.lo ≤ s.hi ∧ (0 ≤ s.wear ∧ s.wear ≤ 1000) := by
  obtain ⟨h1, h⟩ := fst0_cons h
  obtain ⟨h2, h⟩ := fst0_cons h
  obtain ⟨h3, _⟩ := fst0_cons h
  have h1 := unl_ok (by decide) h1
  simp only [Bool.and_eq_true] at h1
  exact ⟨inR_iff.1 h1.1, inR_iff.1 h1.2, of_decide_eq_true (unl_ok (by decide) h2), inR_iff.1 (unl_ok (by decide) h3)⟩
/-- A point after a strip; a contour after strips. -/
def wearP (s : Strp) (p : Int × Int) : Int × Int := bif inR p.1 s.lo s.hi then (p.1, p.2 - s.wear) else p
def wornL : List Strp → List (Int × Int) → List (Int × Int) × Int
  | [], c => (c, 0)
  | s :: l, c => bif stpE s == 0 then wornL l (c.map (wearP s)) else ([], stpE s)
theorem wornL_zero {s : Strp} (h : stpE s = 0) (l : List Strp) (c : List (Int × Int)) : wornL (s :: l) c = wornL l (c.map (wearP s)) := by
  show (bif stpE s == 0 then _ else _) = _; rw [h]; rfl
theorem wornL_ne {s : Strp} {e : Int} (h : stpE s = e) (he : e ≠ 0) (l : List Strp) (c : List (Int × Int)) : wornL (s :: l) c = ([], e) := by
  show (bif stpE s == 0 then _ else _) = _
  rw [h, show (e == 0) = false from beq_eq_false_iff_ne.2 he]; rfl
def mapTo (g : Int × Int → Int × Int) (X : List (Int × Int)) (j : Nat) : List (Int × Int) := (X.take j).map g ++ X.drop j
theorem mapTo_len (g : Int × Int → Int × Int) (X : List (Int × Int)) {j : Nat} (h : j ≤ X.length) : (mapTo g X j).length = X.length := by simp [mapTo]; omega
theorem mapTo_at (g : Int × Int → Int × Int) {X : List (Int × Int)} {j : Nat} (h : j < X.length) : mapTo g X j = (X.take j).map g ++ X.getD j f0 :: X.drop (j + 1) := by
  unfold mapTo; rw [drop_getF h]
theorem mapTo_getD (g : Int × Int → Int × Int) {X : List (Int × Int)} {j : Nat} (h : j < X.length) : (mapTo g X j).getD j f0 = X.getD j f0 := by
  rw [mapTo_at g h, List.getD_eq_getElem?_getD, List.getElem?_append_right (by simp; omega)]
  simp [Nat.min_eq_left (Nat.le_of_lt h)]
theorem mapTo_succ (g : Int × Int → Int × Int) {X : List (Int × Int)} {j : Nat} (h : j < X.length) : mapTo g X (j + 1) = (X.take j).map g ++ g (X.getD j f0) :: X.drop (j + 1) := by
  unfold mapTo
  rw [List.take_add_one, List.getElem?_eq_getElem h, List.getD_eq_getElem?_getD, List.getElem?_eq_getElem h, List.map_append, List.append_assoc]
  rfl
theorem mapTo_set (g : Int × Int → Int × Int) {X : List (Int × Int)} {j : Nat} (h : j < X.length) {v : Int × Int} (hv : v = g (X.getD j f0)) : (mapTo g X j).set j v = mapTo g X (j + 1) := by
  subst hv
  rw [mapTo_at g h, mapTo_succ g h, List.set_append_right _ _ (by simp; omega)]
  simp [Nat.min_eq_left (Nat.le_of_lt h)]
theorem mapTo_same (g : Int × Int → Int × Int) {X : List (Int × Int)} {j : Nat} (h : j < X.length) (hv : g (X.getD j f0) = X.getD j f0) : mapTo g X j = mapTo g X (j + 1) := by
  rw [mapTo_at g h, mapTo_succ g h, hv]
theorem mapTo_all (g : Int × Int → Int × Int) {X : List (Int × Int)} {j : Nat} (h : j = X.length) : mapTo g X j = X.map g := by
  subst h; simp [mapTo]

end Go.Proofs.YtagpmpbmfjaiiaaGreatDoor
