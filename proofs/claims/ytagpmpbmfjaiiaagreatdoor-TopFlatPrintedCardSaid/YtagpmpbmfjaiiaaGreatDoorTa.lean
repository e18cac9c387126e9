/- The law FlatChanges: what it answers. -/
import Derived.Test.YtagpmpbmfjaiiaaGreatDoorPi
import Derived.Test.YtagpmpbmfjaiiaaGreatDoorPt
import Derived.Test.YtagpmpbmfjaiiaaGreatDoorM9
import Derived.Test.YtagpmpbmfjaiiaaGreatDoorMo
set_option linter.unusedVariables false
set_option linter.unusedSimpArgs false
namespace Go.Proofs.YtagpmpbmfjaiiaaGreatDoor
open Go.RowKit
set_option maxRecDepth 20000
set_option maxHeartbeats 8000000

abbrev frK (L : List (Int × Int)) : List DV := (L.map frC).flatten
abbrev frS (L : List (Int × Int)) : DV := .slice L.length (frK L)
theorem frC_len (f : Int × Int) : (frC f).length = 2 := rfl
theorem frK_len (L : List (Int × Int)) : (frK L).length = L.length * 2 := flat_len frC 2 frC_len L
abbrev f0 : Int × Int := (0, 0)
/-- The numbers of a list that is given by a function. -/
def lstF (f : Nat → Int × Int) (n : Nat) : List (Int × Int) := (List.range n).map f
theorem lstF_len (f : Nat → Int × Int) (n : Nat) : (lstF f n).length = n := by simp [lstF]
theorem lstF_snoc (f : Nat → Int × Int) (n : Nat) : frK (lstF f (n + 1)) = frK (lstF f n) ++ frC (f n) := by
  unfold frK lstF; rw [List.range_succ, List.map_append, List.map_append, List.flatten_append]; simp
theorem frK_ne {L : List (Int × Int)} (h : L ≠ []) : frK L ≠ [] := by
  rcases L with _ | ⟨x, L⟩
  · exact absurd rfl h
  · intro h2
    have := frK_len (x :: L)
    rw [h2] at this
    simp at this
theorem low_pos {n d : Int} (h : 0 < d) : 0 < (low n d).2 := by
  show 0 < d / (Int.gcd n d : Int)
  exact Int.ediv_pos_of_pos_of_dvd h (Int.natCast_nonneg _) (Int.gcd_dvd_right ..)
theorem bIsSmall_A (f : Int × Int) (h : 0 < f.2) : AC Tryz.prog 33 [F2 f] (B (smF f)) := by
  have h1 := bwithin_A f.1 (-1000000000) 1000000000
  have h2 := bwithin_A f.2 1 1000000000
  have h3 : inR f.2 1 1000000000 = decide (f.2 ≤ 1000000000) := by
    by_cases hf : f.2 ≤ 1000000000
    · rw [decide_eq_true hf, inR_iff.2 ⟨by omega, hf⟩]
    · rw [decide_eq_false hf]
      cases hq : inR f.2 1 1000000000
      · rfl
      · exact absurd (inR_iff.1 hq).2 hf
  rw [h3] at h2
  unfold smF
  cases hq : inR f.1 (-1000000000) 1000000000
  all_goals
    rw [hq] at h1
    refine ac_body Tryz.func33 rfl (by kernel_rfl) fun w0 ok => ?_; show AWp _ (ctx0 w0 ok _) _ (ARet _ _ _) (entry _)
    (repeat' (first | (with_reducible first | intro hg | refine mv (by constructor) ?_) | ((with_reducible first | refine zR ?_ ?_ | refine zW mixed ?_ ?_); exact kr) | ((with_reducible apply zK); exact rfl; exact tf) | ((with_reducible apply zCD); exact rfl) | ((with_reducible apply zCN); exact rfl) | ((with_reducible apply zC); exact rfl) | ((with_reducible refine zX ?_ ?_); exact rfl) | ((with_reducible refine zE (And.intro ?_ ?_)); exact kr) | (with_reducible refine zE ?_) | ((with_reducible apply zP); (first | exact dp | exact oc rfl (h1) | exact oc rfl (h2))) | ((with_reducible apply zN); exact dn) | ((with_reducible apply zA); exact da) | ((with_reducible apply zS); exact ds) | ((with_reducible apply zY); exact rfl; exact rfl; exact tf) | ((with_reducible apply zG); exact rfl; exact rfl; exact tf) | ((with_reducible apply zU); exact rfl; exact rfl) | ((with_reducible apply zD); exact rfl; exact rfl) | ((with_reducible apply zB); exact rfl; exact rfl)))
    ((with_reducible first | apply q_retR | apply q_retN); exact rl)
    rfl
def sumT (l : List Int) : Nat → Int
  | 0 => 0
  | k + 1 => sumT l k + nth l k
theorem sumT_bnd {l : List Int} (h : ∀ x ∈ l, 1 ≤ x ∧ x ≤ 100000) : ∀ k, k ≤ l.length → (k : Int) ≤ sumT l k ∧ sumT l k ≤ 100000 * k
  | 0, _ => by unfold sumT; omega
  | k + 1, hk => by
    have h1 := sumT_bnd h k (by omega)
    have h2 := h _ (nth_mem (xs := l) (k := k) (by omega))
    unfold sumT; omega
def sumL (l : List Int) : Int := sumT l l.length
theorem sum_A (l : List Int) (h : prE l = 0) : AC Tryz.prog 72 [isl l] (I (sumL l)) := by
  obtain ⟨h1, h2, h3, h4⟩ := prE_ok h
  refine ac_body Tryz.func72 rfl (by kernel_rfl) fun w0 ok => ?_; show AWp _ (ctx0 w0 ok _) _ (ARet _ _ _) (entry _)
  (repeat' (first | (with_reducible first | intro hg | refine mv (by constructor) ?_) | ((with_reducible first | refine zR ?_ ?_ | refine zW mixed ?_ ?_); exact kr) | ((with_reducible apply zK); exact rfl; exact tf) | ((with_reducible apply zCD); exact rfl) | ((with_reducible apply zCN); exact rfl) | ((with_reducible apply zC); exact rfl) | ((with_reducible refine zX ?_ ?_); exact rfl) | ((with_reducible refine zE (And.intro ?_ ?_)); exact kr) | (with_reducible refine zE ?_) | ((with_reducible apply zP); exact dp) | ((with_reducible apply zN); exact dn) | ((with_reducible apply zA); exact da) | ((with_reducible apply zS); exact ds) | ((with_reducible apply zY); exact rfl; exact rfl; exact tf) | ((with_reducible apply zG); exact rfl; exact rfl; exact tf) | ((with_reducible apply zU); exact rfl; exact rfl) | ((with_reducible apply zD); exact rfl; exact rfl) | ((with_reducible apply zB); exact rfl; exact rfl)))
  refine awp_loopL (α := Nat) (fun k => [(3, .d (I (sumT l k))), (6, .d (isl l)), (7, .d (I l.length)), (8, .d (I k))]) (fun _ => []) (fun k => k ≤ l.length) (fun k => l.length - k) 0 (Nat.zero_le _) (And.intro rfl (And.intro rfl (And.intro rfl (And.intro rfl trivial)))) trivial fun k hk => ?_
  by_cases hlt : k < l.length
  · have hb := sumT_bnd h4 k hk
    have hb2 := h4 _ (nth_mem hlt)
    (repeat' (first | (with_reducible first | intro hg | refine mv (by constructor) ?_) | ((with_reducible first | refine zR ?_ ?_ | refine zW mixed ?_ ?_); exact kr) | ((with_reducible apply zK); exact rfl; exact tf) | ((with_reducible apply zCD); exact rfl) | ((with_reducible apply zCN); exact rfl) | ((with_reducible apply zC); exact rfl) | ((with_reducible refine zX ?_ ?_); exact rfl) | ((with_reducible refine zE (And.intro ?_ ?_)); exact kr) | (with_reducible refine zE ?_) | ((with_reducible apply zP); (first | exact o_indexI (j := k) (xs := l) rfl rfl (by omega) rfl | exact dp)) | ((with_reducible apply zN); exact dn) | ((with_reducible apply zA); exact da) | ((with_reducible apply zS); exact ds) | ((with_reducible apply zY); exact rfl; exact rfl; exact tf) | ((with_reducible apply zG); exact rfl; exact rfl; exact tf) | ((with_reducible apply zU); exact rfl; exact rfl) | ((with_reducible apply zD); exact rfl; exact rfl) | ((with_reducible apply zB); exact rfl; exact rfl)))
    exact ⟨k + 1, hlt, by omega, (And.intro rfl (And.intro rfl (And.intro rfl (And.intro rfl trivial)))), trivial⟩
  · obtain rfl : k = l.length := by omega
    (repeat' (first | (with_reducible first | intro hg | refine mv (by constructor) ?_) | ((with_reducible first | refine zR ?_ ?_ | refine zW mixed ?_ ?_); exact kr) | ((with_reducible apply zK); exact rfl; exact tf) | ((with_reducible apply zCD); exact rfl) | ((with_reducible apply zCN); exact rfl) | ((with_reducible apply zC); exact rfl) | ((with_reducible refine zX ?_ ?_); exact rfl) | ((with_reducible refine zE (And.intro ?_ ?_)); exact kr) | (with_reducible refine zE ?_) | ((with_reducible apply zP); exact dp) | ((with_reducible apply zN); exact dn) | ((with_reducible apply zA); exact da) | ((with_reducible apply zS); exact ds) | ((with_reducible apply zY); exact rfl; exact rfl; exact tf) | ((with_reducible apply zG); exact rfl; exact rfl; exact tf) | ((with_reducible apply zU); exact rfl; exact rfl) | ((with_reducible apply zD); exact rfl; exact rfl) | ((with_reducible apply zB); exact rfl; exact rfl)))
    ((with_reducible first | apply q_retR | apply q_retN); exact rl)
    rfl
/-- The change at a position, as it is. -/
def chF (b a : List Int) (i : Nat) : Int × Int := low (nth b i * sumL a - nth a i * sumL b) (nth a i * sumL b)
/-- The changes of the first positions are not too large. -/
def chA (b a : List Int) : Nat → Bool
  | 0 => true
  | k + 1 => chA b a k && smF (chF b a k)
theorem chA_false {b a : List Int} {k : Nat} (h : chA b a k = false) : ∀ n, chA b a (k + n) = false
  | 0 => h
  | n + 1 => by show (chA b a (k + n) && _) = false; rw [chA_false h n]; rfl
theorem chA_end {b a : List Int} {k n : Nat} (h : chA b a k = false) (hk : k ≤ n) : chA b a n = false := by
  have := chA_false h (n - k)
  rwa [show k + (n - k) = n by omega] at this
def chL (b a : List Int) : List (Int × Int) := lstF (chF b a) b.length
theorem mul_pos_bnd {x y : Int} (h1 : 1 ≤ x ∧ x ≤ 100000) (h2 : 1 ≤ y ∧ y ≤ 900000) : 1 ≤ x * y ∧ x * y ≤ 90000000000 := by
  have a1 : x * y ≤ x * 900000 := Int.mul_le_mul_of_nonneg_left h2.2 (by omega)
  have a2 : x * 1 ≤ x * y := Int.mul_le_mul_of_nonneg_left h2.1 (by omega)
  omega
theorem sumL_bnd {l : List Int} (h : prE l = 0) : 1 ≤ sumL l ∧ sumL l ≤ 900000 := by
  obtain ⟨h1, h2, h3, h4⟩ := prE_ok h
  have := sumT_bnd h4 l.length (Nat.le_refl _)
  unfold sumL; omega
theorem changesOf_A (b a : List Int) (hb : prE b = 0) (ha : prE a = 0) (hl : a.length = b.length) : AC Tryz.prog 38 [isl b, isl a] (.tuple (bif chA b a b.length then [frS (chL b a), I 0] else [nilV, I 8])) := by
  obtain ⟨b1, b2, b3, b4⟩ := prE_ok hb
  obtain ⟨a1, a2, a3, a4⟩ := prE_ok ha
  have hkb := checkProfile_A b (by omega)
  have hka := checkProfile_A a (by omega)
  rw [hb] at hkb
  rw [ha] at hka
  have hu : AC Tryz.prog 57 [B (decide ((b.length : Int) = (a.length : Int))), I 10] (I 0) := by have := unless_A (decide ((b.length : Int) = (a.length : Int))) 10; rw [show unl (decide ((b.length : Int) = (a.length : Int))) 10 = 0 by rw [decide_eq_true (by omega)]; rfl] at this; exact this
  have hsb := sum_A b hb
  have hsa := sum_A a ha
  have sb := sumL_bnd hb
  have sa := sumL_bnd ha
  refine ac_body Tryz.func38 rfl (by kernel_rfl) fun w0 ok => ?_; show AWp _ (ctx0 w0 ok _) _ (ARet _ _ _) (entry _)
  (repeat' (first | (with_reducible first | intro hg | refine mv (by constructor) ?_) | ((with_reducible first | refine zR ?_ ?_ | refine zW mixed ?_ ?_); exact kr) | ((with_reducible apply zK); exact rfl; exact tf) | ((with_reducible apply zCD); exact rfl) | ((with_reducible apply zCN); exact rfl) | ((with_reducible apply zC); exact rfl) | ((with_reducible refine zX ?_ ?_); exact rfl) | ((with_reducible refine zE (And.intro ?_ ?_)); exact kr) | (with_reducible refine zE ?_) | ((with_reducible apply zP); (first | exact dp | exact oc rfl (hkb) | exact oc rfl (hka) | exact oc rfl (hu) | exact oc rfl (hsb) | exact oc rfl (hsa) | exact oc rfl (first3_A _ _ _))) | ((with_reducible apply zN); exact dn) | ((with_reducible apply zA); exact da) | ((with_reducible apply zS); exact ds) | ((with_reducible apply zY); exact rfl; exact rfl; exact tf) | ((with_reducible apply zG); exact rfl; exact rfl; exact tf) | ((with_reducible apply zU); exact rfl; exact rfl) | ((with_reducible apply zD); exact rfl; exact rfl) | ((with_reducible apply zB); exact rfl; exact rfl)))
  refine awp_loopL (α := Nat) (fun k => [(0, .d (isl b)), (7, .d (I (sumL b))), (8, .d (I (sumL a))), (9, ownZ 63 2 k), (33, .d (isl a)), (34, .d (I a.length)), (35, .d (I k))]) (fun k => ownM 63 63 (frK (lstF (chF b a) k)) k) (fun k => k ≤ a.length ∧ chA b a k = true) (fun k => a.length - k) 0 ⟨Nat.zero_le _, rfl⟩ (And.intro rfl (And.intro rfl (And.intro rfl (And.intro rfl (And.intro rfl (And.intro rfl (And.intro rfl trivial))))))) trivial fun k ⟨hk, hc⟩ => ?_
  by_cases hlt : k < a.length
  · have c1 := b4 _ (nth_mem (xs := b) (k := k) (by omega))
    have c2 := a4 _ (nth_mem hlt)
    have m1 := mul_pos_bnd c1 sa
    have m2 := mul_pos_bnd c2 sb
    have hf := fraction_A (nth b k * sumL a - nth a k * sumL b) (nth a k * sumL b) ⟨by omega, by omega⟩ (by omega) (by omega)
    have hs : chA b a (k + 1) = (chA b a k && smF (chF b a k)) := rfl
    rw [hc, Bool.true_and] at hs
    have hfr : frc (nth b k * sumL a - nth a k * sumL b) (nth a k * sumL b) = bif smF (chF b a k) then (chF b a k, 0) else ((0, 0), 8) := rfl
    rw [hfr] at hf
    cases hq : smF (chF b a k)
    · rw [hq] at hs hf
      have he := chA_end hs (n := b.length) (by omega)
      (repeat' (first | (with_reducible first | intro hg | refine mv (by constructor) ?_) | ((with_reducible first | refine zR ?_ ?_ | refine zW mixed ?_ ?_); exact kr) | ((with_reducible apply zK); exact rfl; exact tf) | ((with_reducible apply zCD); exact rfl) | ((with_reducible apply zCN); exact rfl) | ((with_reducible apply zC); exact rfl) | ((with_reducible refine zX ?_ ?_); exact rfl) | ((with_reducible refine zE (And.intro ?_ ?_)); exact kr) | (with_reducible refine zE ?_) | ((with_reducible apply zP); (first | exact o_indexI (j := k) (xs := a) rfl rfl (by omega) rfl | exact o_indexI (j := k) (xs := b) rfl rfl (by omega) rfl | exact dp | exact oc rfl (hf))) | ((with_reducible apply zN); exact dn) | ((with_reducible apply zA); exact da) | ((with_reducible apply zS); exact ds) | ((with_reducible apply zY); exact rfl; exact rfl; exact tf) | ((with_reducible apply zG); exact rfl; exact rfl; exact tf) | ((with_reducible apply zU); exact rfl; exact rfl) | ((with_reducible apply zD); exact rfl; exact rfl) | ((with_reducible apply zB); exact rfl; exact rfl)))
      ((with_reducible first | apply q_retR | apply q_retN); exact rl)
      rw [he]; rfl
    · rw [hq] at hs hf
      have hsn := lstF_snoc (chF b a) k
      have hln := frK_len (lstF (chF b a) k)
      rw [lstF_len] at hln
      rcases k with _ | k
      · (repeat' (first | (with_reducible first | intro hg | refine mv (by constructor) ?_) | ((with_reducible first | refine zR ?_ ?_ | refine zW mixed ?_ ?_); exact kr) | ((with_reducible apply zK); exact rfl; exact tf) | ((with_reducible apply zCD); exact rfl) | ((with_reducible apply zCN); exact rfl) | ((with_reducible apply zC); exact rfl) | ((with_reducible refine zX ?_ ?_); exact rfl) | ((with_reducible refine zE (And.intro ?_ ?_)); exact kr) | (with_reducible refine zE ?_) | ((with_reducible apply zP); (first | exact o_indexI (j := 0) (xs := a) rfl rfl (by omega) rfl | exact o_indexI (j := 0) (xs := b) rfl rfl (by omega) rfl | exact dp | exact oc rfl (hf))) | ((with_reducible apply zN); exact dn) | ((with_reducible apply zA); exact da) | ((with_reducible apply zS); exact ds) | ((with_reducible apply zY); exact rfl; exact rfl; exact tf) | ((with_reducible apply zG); exact rfl; exact rfl; exact tf) | ((with_reducible apply zU); exact rfl; exact rfl) | ((with_reducible apply zD); exact rfl; exact rfl) | ((with_reducible apply zB); exact rfl; exact rfl)))
        exact ⟨1, ⟨hlt, hs⟩, by omega, (And.intro rfl (And.intro rfl (And.intro rfl (And.intro rfl (And.intro rfl (And.intro rfl (And.intro rfl trivial))))))), (And.intro (congrArg (fun l => some (Blk.mk _ l)) hsn.symm) trivial)⟩
      · (repeat' (first | (with_reducible first | intro hg | refine mv (by constructor) ?_) | ((with_reducible first | refine zR ?_ ?_ | refine zW mixed ?_ ?_); exact kr) | ((with_reducible apply zK); exact rfl; exact tf) | ((with_reducible apply zCD); exact rfl) | ((with_reducible apply zCN); exact rfl) | ((with_reducible apply zC); exact rfl) | ((with_reducible refine zX ?_ ?_); exact rfl) | ((with_reducible refine zE (And.intro ?_ ?_)); exact kr) | (with_reducible refine zE ?_) | ((with_reducible apply zP); (first | exact o_indexI (j := k + 1) (xs := a) rfl rfl (by omega) rfl | exact o_indexI (j := k + 1) (xs := b) rfl rfl (by omega) rfl | exact dp | exact oc rfl (hf))) | ((with_reducible apply zN); exact dn) | ((with_reducible apply zA); (first | ((apply o_app); (case hx => exact rfl); (case hm => exact rfl); (case hy => exact .own rfl rfl); (case hty => exact rfl); (case hl => solve | exact hln | rfl); (case hcl => solve | rfl | exact hln | simp); (case hpos => omega); (case hb => omega); (case hb2 => omega); (case hnew => exact rfl)) | ((apply o_app); (case hx => exact rfl); (case hm => exact rfl); (case hy => exact .sl rfl); (case hty => exact rfl); (case hl => solve | exact hln | rfl); (case hcl => solve | rfl | exact hln | simp); (case hpos => omega); (case hb => omega); (case hb2 => omega); (case hnew => exact rfl)) | exact da)) | ((with_reducible apply zS); exact ds) | ((with_reducible apply zY); exact rfl; exact rfl; exact tf) | ((with_reducible apply zG); exact rfl; exact rfl; exact tf) | ((with_reducible apply zU); exact rfl; exact rfl) | ((with_reducible apply zD); exact rfl; exact rfl) | ((with_reducible apply zB); exact rfl; exact rfl)))
        exact ⟨k + 1 + 1, ⟨hlt, hs⟩, by omega, (And.intro rfl (And.intro rfl (And.intro rfl (And.intro rfl (And.intro rfl (And.intro rfl (And.intro rfl trivial))))))), (And.intro (congrArg (fun l => some (Blk.mk _ l)) hsn.symm) trivial)⟩
  · obtain rfl : k = a.length := by omega
    have hln := frK_len (lstF (chF b a) a.length)
    rw [lstF_len] at hln
    refine awp_ownZ 9 63 2 (t := 63) _ hln rfl (fun k hk => by rw [hk]; rfl) ?_
    (repeat' (first | (with_reducible first | intro hg | refine mv (by constructor) ?_) | ((with_reducible first | refine zR ?_ ?_ | refine zW mixed ?_ ?_); exact kr) | ((with_reducible apply zK); exact rfl; exact tf) | ((with_reducible apply zCD); exact rfl) | ((with_reducible apply zCN); exact rfl) | ((with_reducible apply zC); exact rfl) | ((with_reducible refine zX ?_ ?_); exact rfl) | ((with_reducible refine zE (And.intro ?_ ?_)); exact kr) | (with_reducible refine zE ?_) | ((with_reducible apply zP); exact dp) | ((with_reducible apply zN); exact dn) | ((with_reducible apply zA); exact da) | ((with_reducible apply zS); exact ds) | ((with_reducible apply zY); exact rfl; exact rfl; exact tf) | ((with_reducible apply zG); exact rfl; exact rfl; exact tf) | ((with_reducible apply zU); exact rfl; exact rfl) | ((with_reducible apply zD); exact rfl; exact rfl) | ((with_reducible apply zB); exact rfl; exact rfl)))
    ((with_reducible first | apply q_retR | apply q_retN); exact rl)
    have e : chL b a = lstF (chF b a) a.length := by unfold chL; rw [hl]
    rw [e, ← hl, hc]
    show DV.tuple [DV.slice (lstF (chF b a) a.length).length _, I 0] = _
    rw [lstF_len]; rfl
/-- The error of two profiles. -/
def chE (b a : List Int) : Int := fst0 [prE b, prE a, unl (decide ((b.length : Int) = a.length)) 10]
theorem changesOf_err (b a : List Int) (hm : b.length ≤ 140737488355328) (hm2 : a.length ≤ 140737488355328) (he : chE b a ≠ 0) : AC Tryz.prog 38 [isl b, isl a] (.tuple [nilV, I (chE b a)]) := by
  have hkb := checkProfile_A b hm
  have hka := checkProfile_A a hm2
  have he' : fst0 [prE b, prE a, unl (decide ((b.length : Int) = a.length)) 10] ≠ 0 := he
  refine ac_body Tryz.func38 rfl (by kernel_rfl) fun w0 ok => ?_; show AWp _ (ctx0 w0 ok _) _ (ARet _ _ _) (entry _)
  (repeat' (first | (with_reducible first | intro hg | refine mv (by constructor) ?_) | ((with_reducible first | refine zR ?_ ?_ | refine zW mixed ?_ ?_); exact kr) | ((with_reducible apply zK); exact rfl; exact tf) | ((with_reducible apply zCD); exact rfl) | ((with_reducible apply zCN); exact rfl) | ((with_reducible apply zC); exact rfl) | ((with_reducible refine zX ?_ ?_); exact rfl) | ((with_reducible refine zE (And.intro ?_ ?_)); exact kr) | (with_reducible refine zE ?_) | ((with_reducible apply zP); (first | exact dp | exact oc rfl (hkb) | exact oc rfl (hka) | exact oc rfl (unless_A _ _) | exact oc rfl (first3_A _ _ _))) | ((with_reducible apply zN); exact dn) | ((with_reducible apply zA); exact da) | ((with_reducible apply zS); exact ds) | ((with_reducible apply zY); exact rfl; exact rfl; exact tf) | ((with_reducible apply zG); exact rfl; exact rfl; exact tf) | ((with_reducible apply zU); exact rfl; exact rfl) | ((with_reducible apply zD); exact rfl; exact rfl) | ((with_reducible apply zB); exact rfl; exact rfl)))
  ((with_reducible first | apply q_retR | apply q_retN); exact rl)
  rfl
end Go.Proofs.YtagpmpbmfjaiiaaGreatDoor
