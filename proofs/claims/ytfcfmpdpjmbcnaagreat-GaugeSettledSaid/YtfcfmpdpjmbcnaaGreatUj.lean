/- The smallest box that is kept: walk. -/
import Derived.Test.YtfcfmpdpjmbcnaaGreatUi
import Derived.Test.YtfcfmpdpjmbcnaaGreatUq
set_option linter.unusedVariables false
set_option linter.unusedSimpArgs false
namespace Go.Proofs.YtfcfmpdpjmbcnaaGreat
open Go.RowKit
set_option maxRecDepth 20000
set_option maxHeartbeats 8000000

/-- The box of a start. -/
abbrev stB (xs : List Int) : List (Int × Int) := xs.map fun n => (n, n)
/-- A box in the limits. -/
def BxL (L : List Lp) (B : List (Int × Int)) : Prop := B.length = L.length ∧ ∀ i, i < L.length → bLo B i ≤ bHi B i ∧ inL L B i = true
theorem BxL.small {L : List Lp} (hL : ∀ x ∈ L, LpOk x) {B : List (Int × Int)} (h : BxL L B) : BxS L B := ⟨h.1, fun j hj => by
  have h1 := inL_iff.1 (h.2 j hj).2
  have hx := hL _ (lpA_mem hj)
  have h2 := hx.l1
  have h3 := hx.l2
  omega⟩
theorem lvB_img (L : List Lp) (B : List (Int × Int)) : fstI (lvB (lsR (imgA L B) L.length) B) L.length = fstI (lvA L B) L.length := fstI_congr _ fun i hi => by
  have e : (lsR (imgA L B) L.length).getD i rg0 = imgA L B i := lsR_get _ hi
  show (decide (((lsR (imgA L B) L.length).getD i rg0).1 < bLo B i) || decide (bHi B i < ((lsR (imgA L B) L.length).getD i rg0).2)) = _
  rw [e]; rfl
theorem stB_get {xs : List Int} {i : Nat} (h : i < xs.length) : (stB xs).getD i rg0 = (nth xs i, nth xs i) := by
  unfold nth
  rw [List.getD_eq_getElem?_getD, List.getElem?_map, List.getElem?_eq_getElem h, List.getD_eq_getElem?_getD, List.getElem?_eq_getElem h]; rfl
theorem stB_take {xs : List Int} {k : Nat} (h : k < xs.length) : stB (xs.take (k + 1)) = stB (xs.take k) ++ [(nth xs k, nth xs k)] := by
  unfold nth
  rw [List.take_add_one, List.getElem?_eq_getElem h, List.getD_eq_getElem?_getD, List.getElem?_eq_getElem h]; exact List.map_append
/-- Whether a start lies in the limits. -/
def stL (L : List Lp) (xs : List Int) : Nat → Bool
  | 0 => true
  | k + 1 => stL L xs k && inR (nth xs k) (lpA L k).llo (lpA L k).lhi
theorem stL_get {L : List Lp} {xs : List Int} : ∀ {n : Nat}, stL L xs n = true ↔ ∀ k, k < n → (lpA L k).llo ≤ nth xs k ∧ nth xs k ≤ (lpA L k).lhi
  | 0 => ⟨fun _ k h => absurd h (Nat.not_lt_zero k), fun _ => rfl⟩
  | n + 1 => by
    unfold stL
    rw [Bool.and_eq_true, stL_get, inR_true]
    constructor
    · rintro ⟨h1, h2⟩ k hk
      by_cases e : k = n
      · rw [e]; exact h2
      · exact h1 k (by omega)
    · exact fun h => ⟨fun k hk => h k (by omega), h n (by omega)⟩
theorem stB_ok {L : List Lp} {xs : List Int} (hl : xs.length = L.length) (h : stL L xs L.length = true) : BxL L (stB xs) := ⟨by simp [hl], fun i hi => by
  have e := stB_get (xs := xs) (i := i) (by omega)
  have h1 := stL_get.1 h i hi
  have e1 : bLo (stB xs) i = nth xs i := by show ((stB xs).getD i rg0).1 = _; rw [e]
  have e2 : bHi (stB xs) i = nth xs i := by show ((stB xs).getD i rg0).2 = _; rw [e]
  refine ⟨by rw [e1, e2]; exact Int.le_refl _, inL_iff.2 ?_⟩
  rw [e1, e2]
  exact ⟨h1, h1⟩⟩
/-- What BoxFor answers for a valid chain and a start of its length. -/
def bxM : Option (List (Int × Int)) → DV × Int
  | some B => (rgV B, 0)
  | none => (nilV, 12)
def bxR (L : List Lp) (xs : List Int) : DV × Int := bif stL L xs L.length then bxM (boxF L (rmA L (stB xs) L.length + 1) (stB xs)) else (nilV, 22)
/-- A box, the first ranges already replaced. -/
def mixB (L : List Lp) (B : List (Int × Int)) (k : Nat) : List (Int × Int) := lsR (hulA L B) k ++ B.drop k
theorem mix_len {L : List Lp} {B : List (Int × Int)} {k : Nat} (h : k ≤ B.length) : (mixB L B k).length = B.length := by
  unfold mixB; rw [List.length_append, lsR_length, List.length_drop]; omega
theorem mix_get {L : List Lp} {B : List (Int × Int)} {k : Nat} (h : k < B.length) : (mixB L B k).getD k rg0 = B.getD k rg0 := by
  unfold mixB
  rw [List.getD_eq_getElem?_getD, List.getElem?_append_right (by rw [lsR_length]; exact Nat.le_refl _), lsR_length, Nat.sub_self, List.getElem?_drop, Nat.add_zero, List.getD_eq_getElem?_getD]
theorem mix_set {L : List Lp} {B : List (Int × Int)} {k : Nat} (h : k < B.length) : (mixB L B k).set k (hulA L B k) = mixB L B (k + 1) := by
  unfold mixB
  rw [List.set_append_right _ _ (by rw [lsR_length]; exact Nat.le_refl _), lsR_length, Nat.sub_self, lsR_succ, List.append_assoc]
  congr 1
  rw [List.drop_eq_getElem_cons h, List.set_cons_zero]; rfl
theorem mix_end {L : List Lp} {B : List (Int × Int)} (h : B.length = L.length) : mixB L B L.length = lsR (hulA L B) L.length := by
  unfold mixB; rw [List.drop_of_length_le (by omega), List.append_nil]
theorem boxFor_A (L : List Lp) (xs : List Int) (h : (chE L).2 = 0) (hl : xs.length = L.length) (hm : L.length ≤ 140737488355328) : AC Tryz.prog 30 [chV L, isl xs] (.tuple [(bxR L xs).1, I (bxR L xs).2]) := by
  obtain ⟨l0, l5, hL⟩ := chE_ok h
  have ho := open_A L hm
  rw [h] at ho
  have u1 : AC Tryz.prog 37 [B (decide ((xs.length : Int) = (L.length : Int))), I 10] (I 0) := by
    rw [decide_eq_true (by omega)]
    exact unless_A _ _
  refine ac_body Tryz.func30 rfl (by kernel_rfl) fun w0 ok => ?_; show AWp _ (ctx0 w0 ok _) _ (ARet _ _ _) (entry _)
  (repeat' (first | (with_reducible first | intro hg | refine mv (by constructor) ?_) | ((with_reducible first | refine zR ?_ ?_ | refine zW mixed ?_ ?_); exact kr) | ((with_reducible apply zK); exact rfl; exact tf) | ((with_reducible apply zCD); exact rfl) | ((with_reducible apply zCN); exact rfl) | ((with_reducible apply zC); exact rfl) | ((with_reducible refine zX ?_ ?_); exact rfl) | ((with_reducible refine zE (And.intro ?_ ?_)); exact kr) | (with_reducible refine zE ?_) | ((with_reducible apply zP); (first | exact dp | exact oc rfl (ho) | exact oc rfl (u1) | exact oc rfl (first2_A _ _))) | ((with_reducible apply zN); exact dn) | ((with_reducible apply zA); exact da) | ((with_reducible apply zS); exact ds) | ((with_reducible apply zY); exact rfl; exact rfl; exact tf) | ((with_reducible apply zG); exact rfl; exact rfl; exact tf) | ((with_reducible apply zU); exact rfl; exact rfl) | ((with_reducible apply zD); exact rfl; exact rfl) | ((with_reducible apply zB); exact rfl; exact rfl)))
  refine awp_loopL (α := Nat) (fun k => [(2, .ptr 2 0), (6, .ptr 6 0), (8, ownZ 54 2 k), (33, .d (isl xs)), (34, .d (I xs.length)), (35, .d (I k))]) (fun k => (2, ⟨73, chC L⟩) :: (6, ⟨119, chC L⟩) :: ownM 54 77 (rgS (stB (xs.take k))) k) (fun k => k ≤ xs.length ∧ stL L xs k = true) (fun k => xs.length - k) 0 ⟨Nat.zero_le _, rfl⟩ (And.intro rfl (And.intro rfl (And.intro rfl (And.intro rfl (And.intro rfl (And.intro rfl trivial)))))) (And.intro rfl (And.intro rfl trivial)) fun k ⟨hk, hS⟩ => ?_
  by_cases hlt : k < xs.length
  · have w := isIn_A (nth xs k) (L.getD k lp0).llo (L.getD k lp0).lhi
    have hs : stL L xs (k + 1) = inR (nth xs k) (L.getD k lp0).llo (L.getD k lp0).lhi := by unfold stL; rw [hS]; rfl
    cases hb : inR (nth xs k) (L.getD k lp0).llo (L.getD k lp0).lhi
    · have e : bxR L xs = (nilV, 22) := by
        have : stL L xs L.length = false := by
          rw [← Bool.not_eq_true]
          intro h2
          have := inR_true.2 (stL_get.1 h2 k (by omega))
          rw [hb] at this; cases this
        unfold bxR
        rw [this]; rfl
      rw [hb] at w
      rw [e]
      (repeat' (first | (with_reducible first | intro hg | refine mv (by constructor) ?_) | ((with_reducible first | refine zR ?_ ?_ | refine zW mixed ?_ ?_); exact kr) | ((with_reducible apply zK); exact rfl; exact tf) | ((with_reducible apply zCD); exact rfl) | ((with_reducible apply zCN); exact rfl) | ((with_reducible apply zC); exact rfl) | ((with_reducible refine zX ?_ ?_); exact rfl) | ((with_reducible refine zE (And.intro ?_ ?_)); exact kr) | (with_reducible refine zE ?_) | ((with_reducible apply zP); (first | exact o_indexF lp0 lpC_len (by decide) rfl rfl (by omega) rfl | exact dp | exact oc rfl (w))) | ((with_reducible apply zN); exact dn) | ((with_reducible apply zA); exact da) | ((with_reducible apply zS); exact ds) | ((with_reducible apply zY); exact rfl; exact rfl; exact tf) | ((with_reducible apply zG); exact rfl; exact rfl; exact tf) | ((with_reducible apply zU); exact rfl; exact rfl) | ((with_reducible apply zD); exact rfl; exact rfl) | ((with_reducible apply zB); exact rfl; exact rfl)))
      ((with_reducible first | apply q_retR | apply q_retN); exact rl)
      rfl
    · rw [hb] at w hs
      have hsn : rgS (stB (xs.take k)) ++ [I (nth xs k), I (nth xs k)] = rgS (stB (xs.take (k + 1))) := by rw [stB_take hlt]; exact rgS_snoc _ (nth xs k, nth xs k)
      have hln := rgS_len (stB (xs.take k))
      rw [List.length_map, List.length_take, Nat.min_eq_left hk] at hln
      rcases k with _ | k
      · (repeat' (first | (with_reducible first | intro hg | refine mv (by constructor) ?_) | ((with_reducible first | refine zR ?_ ?_ | refine zW mixed ?_ ?_); exact kr) | ((with_reducible apply zK); exact rfl; exact tf) | ((with_reducible apply zCD); exact rfl) | ((with_reducible apply zCN); exact rfl) | ((with_reducible apply zC); exact rfl) | ((with_reducible refine zX ?_ ?_); exact rfl) | ((with_reducible refine zE (And.intro ?_ ?_)); exact kr) | (with_reducible refine zE ?_) | ((with_reducible apply zP); (first | exact o_indexF lp0 lpC_len (by decide) rfl rfl (by omega) rfl | exact dp | exact oc rfl (w))) | ((with_reducible apply zN); exact dn) | ((with_reducible apply zA); exact da) | ((with_reducible apply zS); exact ds) | ((with_reducible apply zY); exact rfl; exact rfl; exact tf) | ((with_reducible apply zG); exact rfl; exact rfl; exact tf) | ((with_reducible apply zU); exact rfl; exact rfl) | ((with_reducible apply zD); exact rfl; exact rfl) | ((with_reducible apply zB); exact rfl; exact rfl)))
        exact ⟨1, ⟨hlt, hs⟩, by omega, (And.intro rfl (And.intro rfl (And.intro rfl (And.intro rfl (And.intro rfl (And.intro rfl trivial)))))), (And.intro rfl (And.intro rfl (And.intro (congrArg (fun l => some (Blk.mk _ l)) hsn) trivial)))⟩
      · (repeat' (first | (with_reducible first | intro hg | refine mv (by constructor) ?_) | ((with_reducible first | refine zR ?_ ?_ | refine zW mixed ?_ ?_); exact kr) | ((with_reducible apply zK); exact rfl; exact tf) | ((with_reducible apply zCD); exact rfl) | ((with_reducible apply zCN); exact rfl) | ((with_reducible apply zC); exact rfl) | ((with_reducible refine zX ?_ ?_); exact rfl) | ((with_reducible refine zE (And.intro ?_ ?_)); exact kr) | (with_reducible refine zE ?_) | ((with_reducible apply zP); (first | exact o_indexF lp0 lpC_len (by decide) rfl rfl (by omega) rfl | exact dp | exact oc rfl (w))) | ((with_reducible apply zN); exact dn) | ((with_reducible apply zA); (first | ((apply o_app); (case hx => exact rfl); (case hm => exact rfl); (case hy => exact .own rfl rfl); (case hty => exact rfl); (case hl => solve | exact hln | rfl); (case hcl => solve | rfl | exact hln | simp); (case hpos => omega); (case hb => omega); (case hb2 => omega); (case hnew => exact rfl)) | ((apply o_app); (case hx => exact rfl); (case hm => exact rfl); (case hy => exact .sl rfl); (case hty => exact rfl); (case hl => solve | exact hln | rfl); (case hcl => solve | rfl | exact hln | simp); (case hpos => omega); (case hb => omega); (case hb2 => omega); (case hnew => exact rfl)) | exact da)) | ((with_reducible apply zS); exact ds) | ((with_reducible apply zY); exact rfl; exact rfl; exact tf) | ((with_reducible apply zG); exact rfl; exact rfl; exact tf) | ((with_reducible apply zU); exact rfl; exact rfl) | ((with_reducible apply zD); exact rfl; exact rfl) | ((with_reducible apply zB); exact rfl; exact rfl)))
        exact ⟨k + 2, ⟨hlt, hs⟩, by omega, (And.intro rfl (And.intro rfl (And.intro rfl (And.intro rfl (And.intro rfl (And.intro rfl trivial)))))), (And.intro rfl (And.intro rfl (And.intro (congrArg (fun l => some (Blk.mk _ l)) hsn) trivial)))⟩
  obtain rfl : k = xs.length := by omega
  have hS' : stL L xs L.length = true := by rw [← hl]; exact hS
  have hbR : bxR L xs = bxM (boxF L (rmA L (stB xs) L.length + 1) (stB xs)) := by unfold bxR; rw [hS']; rfl
  have hb0 := stB_ok hl hS'
  rw [List.take_length]
  obtain ⟨m, hm'⟩ : ∃ m, xs.length = m + 1 := ⟨xs.length - 1, by omega⟩
  have e8 : ownZ 54 2 xs.length = .lsl 54 0 L.length 2 := by rw [← hl, hm']; rfl
  refine awp_cut [(2, .ptr 2 0), (6, .ptr 6 0), (8, .lsl 54 0 L.length 2), (34, .d (I xs.length)), (35, .d (I xs.length))] [(2, ⟨73, chC L⟩), (6, ⟨119, chC L⟩), (54, ⟨77, rgS (stB xs)⟩)] (And.intro rfl (And.intro rfl (And.intro (e8) (And.intro (rfl) (And.intro (rfl) trivial))))) (And.intro rfl (And.intro rfl (And.intro (by rw [hm']; rfl) trivial))) ?_
  generalize stB xs = B0 at *
  generalize bxR L xs = R at *
  clear hS hS' ho u1
  (repeat' (first | (with_reducible first | intro hg | refine mv (by constructor) ?_) | ((with_reducible first | refine zR ?_ ?_ | refine zW mixed ?_ ?_); exact kr) | ((with_reducible apply zK); exact rfl; exact tf) | ((with_reducible apply zCD); exact rfl) | ((with_reducible apply zCN); exact rfl) | ((with_reducible apply zC); exact rfl) | ((with_reducible refine zX ?_ ?_); exact rfl) | ((with_reducible refine zE (And.intro ?_ ?_)); exact kr) | (with_reducible refine zE ?_) | ((with_reducible apply zP); exact dp) | ((with_reducible apply zN); exact dn) | ((with_reducible apply zA); exact da) | ((with_reducible apply zS); exact ds) | ((with_reducible apply zY); exact rfl; exact rfl; exact tf) | ((with_reducible apply zG); exact rfl; exact rfl; exact tf) | ((with_reducible apply zU); exact rfl; exact rfl) | ((with_reducible apply zD); exact rfl; exact rfl) | ((with_reducible apply zB); exact rfl; exact rfl)))
  refine awp_loopL (α := List (Int × Int)) (fun B => [(2, .ptr 2 0), (6, .ptr 6 0), (8, .lsl 54 0 L.length 2)]) (fun B => [(2, ⟨73, chC L⟩), (6, ⟨119, chC L⟩), (54, ⟨77, rgS B⟩)]) (fun B => BxL L B ∧ ∃ j, rmA L B L.length < j ∧ R = bxM (boxF L j B)) (fun B => rmA L B L.length) B0 ⟨hb0, _, Nat.lt_succ_self _, hbR⟩ (And.intro rfl (And.intro rfl (And.intro rfl trivial))) (And.intro rfl (And.intro rfl (And.intro rfl trivial))) fun B ⟨hB, j, hj, hR⟩ => ?_
  obtain ⟨j, rfl⟩ : ∃ i, j = i + 1 := ⟨j - 1, by omega⟩
  have hBl := hB.1
  have hln := rgS_len B
  have hN := next_A L hL l0 (by omega) B (hB.small hL)
  have hv : (((rgS B).drop 0).take (L.length * 2)) = rgS B := by rw [List.drop_zero, List.take_of_length_le (by omega)]
  have hNl := rgS_len (lsR (imgA L B) L.length)
  rw [lsR_length] at hNl
  have hw : (((rgS (lsR (imgA L B) L.length)).drop 0).take (L.length * 2)) = rgS (lsR (imgA L B) L.length) := by rw [List.drop_zero, List.take_of_length_le (by omega)]
  have hnext : ACo Tryz.prog 76 [chV L, .slice L.length (((rgS B).drop 0).take (L.length * 2))] 77 L.length 2 (rgS (lsR (imgA L B) L.length)) := by
    rw [hv, ← hBl]
    rw [← hBl] at hN
    exact hN
  have hlv : AC Tryz.prog 77 [.slice L.length (((rgS (lsR (imgA L B) L.length)).drop 0).take (L.length * 2)), .slice L.length (((rgS B).drop 0).take (L.length * 2))] (I (fstI (lvA L B) L.length)) := by
    have h := leaves_A (lsR (imgA L B) L.length) B (by rw [lsR_length, hBl]) (by rw [lsR_length]; omega)
    rw [lsR_length, lvB_img] at h
    rw [hv, hw]
    have e1 : DV.slice L.length (rgS (lsR (imgA L B) L.length)) = rgV (lsR (imgA L B) L.length) := by show _ = DV.slice _ _; rw [lsR_length]
    have e2 : DV.slice L.length (rgS B) = rgV B := by show _ = DV.slice _ _; rw [hBl]
    rw [e1, e2]
    exact h
  unfold boxF at hR
  by_cases h1 : fstI (lvA L B) L.length < 0
  · rw [decide_eq_true h1] at hR
    have hR : R = (rgV B, 0) := hR
    have hf : DV.slice L.length (((rgS B).drop 0).take (L.length * 2)) = rgV B := by rw [hv]; show _ = DV.slice _ _; rw [hBl]
    generalize fstI (lvA L B) L.length = u at *
    subst hR
    (repeat' ((fail_if_success (with_reducible show AWp _ _ (.region 15 _ _) _ _)); (first | (with_reducible first | intro hg | refine mv (by constructor) ?_) | ((with_reducible first | refine zR ?_ ?_ | refine zW mixed ?_ ?_); exact kr) | ((with_reducible apply zK); exact rfl; exact tf) | ((with_reducible apply zCD); exact rfl) | ((with_reducible apply zCN); exact rfl) | ((with_reducible apply zC); exact rfl) | ((with_reducible refine zX ?_ ?_); exact rfl) | ((with_reducible refine zE (And.intro ?_ ?_)); exact kr) | (with_reducible refine zE ?_) | ((with_reducible apply zP); (first | exact o_call rfl hlv (.inr rfl) | exact dp)) | ((with_reducible apply zN); (first | exact dn | exact o_callO rfl hnext (.inr (rgS_flat _)))) | ((with_reducible apply zA); exact da) | ((with_reducible apply zS); exact ds) | ((with_reducible apply zY); exact rfl; exact rfl; exact tf) | ((with_reducible apply zG); exact rfl; exact rfl; exact tf) | ((with_reducible apply zU); exact rfl; exact rfl) | ((with_reducible apply zD); exact rfl; exact rfl) | ((with_reducible apply zB); exact rfl; exact rfl))))
    refine awp_freeze 54 rfl ?_
    (repeat' (first | (with_reducible first | intro hg | refine mv (by constructor) ?_) | ((with_reducible first | refine zR ?_ ?_ | refine zW mixed ?_ ?_); exact kr) | ((with_reducible apply zK); exact rfl; exact tf) | ((with_reducible apply zCD); exact rfl) | ((with_reducible apply zCN); exact rfl) | ((with_reducible apply zC); exact rfl) | ((with_reducible refine zX ?_ ?_); exact rfl) | ((with_reducible refine zE (And.intro ?_ ?_)); exact kr) | (with_reducible refine zE ?_) | ((with_reducible apply zP); exact dp) | ((with_reducible apply zN); exact dn) | ((with_reducible apply zA); exact da) | ((with_reducible apply zS); exact ds) | ((with_reducible apply zY); exact rfl; exact rfl; exact tf) | ((with_reducible apply zG); exact rfl; exact rfl; exact tf) | ((with_reducible apply zU); exact rfl; exact rfl) | ((with_reducible apply zD); exact rfl; exact rfl) | ((with_reducible apply zB); exact rfl; exact rfl)))
    ((with_reducible first | apply q_retR | apply q_retN); exact rl)
    show resDV [rgV B, I 0] = resDV [DV.slice L.length (((rgS B).drop 0).take (L.length * 2)), I 0]
    rw [hf]
  rw [decide_eq_false h1] at hR
  have hR : R = bxM (bif decide (fstI (fun i => !inL L (lsR (hulA L B) L.length) i) L.length < 0) then boxF L j (lsR (hulA L B) L.length) else none) := hR
  have hf2 : DV.slice L.length (((rgS (lsR (imgA L B) L.length)).drop 0).take (L.length * 2)) = rgV (lsR (imgA L B) L.length) := by rw [hw]; show _ = DV.slice _ _; rw [lsR_length]
  have hlt0 := not_neg h1
  generalize fstI (lvA L B) L.length = u at *
  (repeat' ((fail_if_success (with_reducible show AWp _ _ (.region 16 _ _) _ _)); (first | (with_reducible first | intro hg | refine mv (by constructor) ?_) | ((with_reducible first | refine zR ?_ ?_ | refine zW mixed ?_ ?_); exact kr) | ((with_reducible apply zK); exact rfl; exact tf) | ((with_reducible apply zCD); exact rfl) | ((with_reducible apply zCN); exact rfl) | ((with_reducible apply zC); exact rfl) | ((with_reducible refine zX ?_ ?_); exact rfl) | ((with_reducible refine zE (And.intro ?_ ?_)); exact kr) | (with_reducible refine zE ?_) | ((with_reducible apply zP); (first | exact o_call rfl hlv (.inr rfl) | exact dp)) | ((with_reducible apply zN); (first | exact dn | exact o_callO rfl hnext (.inr (rgS_flat _)))) | ((with_reducible apply zA); exact da) | ((with_reducible apply zS); exact ds) | ((with_reducible apply zY); exact rfl; exact rfl; exact tf) | ((with_reducible apply zG); exact rfl; exact rfl; exact tf) | ((with_reducible apply zU); exact rfl; exact rfl) | ((with_reducible apply zD); exact rfl; exact rfl) | ((with_reducible apply zB); exact rfl; exact rfl))))
  refine awp_freeze 58 rfl ?_
  (repeat' (first | (with_reducible first | intro hg | refine mv (by constructor) ?_) | ((with_reducible first | refine zR ?_ ?_ | refine zW mixed ?_ ?_); exact kr) | ((with_reducible apply zK); exact rfl; exact tf) | ((with_reducible apply zCD); exact rfl) | ((with_reducible apply zCN); exact rfl) | ((with_reducible apply zC); exact rfl) | ((with_reducible refine zX ?_ ?_); exact rfl) | ((with_reducible refine zE (And.intro ?_ ?_)); exact kr) | (with_reducible refine zE ?_) | ((with_reducible apply zP); exact dp) | ((with_reducible apply zN); exact dn) | ((with_reducible apply zA); exact da) | ((with_reducible apply zS); exact ds) | ((with_reducible apply zY); exact rfl; exact rfl; exact tf) | ((with_reducible apply zG); exact rfl; exact rfl; exact tf) | ((with_reducible apply zU); exact rfl; exact rfl) | ((with_reducible apply zD); exact rfl; exact rfl) | ((with_reducible apply zB); exact rfl; exact rfl)))
  refine awp_loopL (α := Nat) (fun k => [(2, .ptr 2 0), (6, .ptr 6 0), (8, .lsl 54 0 L.length 2), (64, .d (rgV (lsR (imgA L B) L.length))), (65, .d (I L.length)), (66, .d (I k))]) (fun k => [(2, ⟨73, chC L⟩), (6, ⟨119, chC L⟩), (54, ⟨77, rgS (mixB L B k)⟩)]) (fun k => k ≤ L.length ∧ ∀ i, i < k → inL L (lsR (hulA L B) L.length) i = true) (fun k => L.length - k) 0 ⟨Nat.zero_le _, fun i hi => absurd hi (Nat.not_lt_zero i)⟩ (And.intro rfl (And.intro rfl (And.intro rfl (And.intro (congrArg AV.d hf2) (And.intro (rfl) (And.intro (rfl) trivial)))))) (And.intro rfl (And.intro rfl (And.intro rfl trivial))) fun k ⟨hk, hI⟩ => ?_
  by_cases hkl : k < L.length
  rotate_left
  · -- all ranges are replaced
    obtain rfl : k = L.length := by omega
    have hall : fstI (fun i => !inL L (lsR (hulA L B) L.length) i) L.length = -1 := fstI_neg fun i hi => by rw [hI i hi]; rfl
    rw [hall] at hR
    obtain ⟨i0, i1, _, i3, _⟩ := hlt0
    have hdec := (rmA_lt hI i3 L.length (Nat.le_refl _)).2 i1
    rw [mix_end hBl]
    (repeat' (first | (with_reducible first | intro hg | refine mv (by constructor) ?_) | ((with_reducible first | refine zR ?_ ?_ | refine zW mixed ?_ ?_); exact kr) | ((with_reducible apply zK); exact rfl; exact tf) | ((with_reducible apply zCD); exact rfl) | ((with_reducible apply zCN); exact rfl) | ((with_reducible apply zC); exact rfl) | ((with_reducible refine zX ?_ ?_); exact rfl) | ((with_reducible refine zE (And.intro ?_ ?_)); exact kr) | (with_reducible refine zE ?_) | ((with_reducible apply zP); exact dp) | ((with_reducible apply zN); exact dn) | ((with_reducible apply zA); exact da) | ((with_reducible apply zS); exact ds) | ((with_reducible apply zY); exact rfl; exact rfl; exact tf) | ((with_reducible apply zG); exact rfl; exact rfl; exact tf) | ((with_reducible apply zU); exact rfl; exact rfl) | ((with_reducible apply zD); exact rfl; exact rfl) | ((with_reducible apply zB); exact rfl; exact rfl)))
    exact ⟨lsR (hulA L B) L.length, ⟨⟨lsR_length _ _, fun i hi => ⟨by
      obtain ⟨e1, e2⟩ := hul_get L B hi
      rw [e1, e2]
      have := (hB.2 i hi).1
      omega, hI i hi⟩⟩, j, by omega, hR⟩, hdec, (And.intro rfl (And.intro rfl (And.intro rfl trivial))), (And.intro rfl (And.intro rfl (And.intro rfl trivial)))⟩
  have hNk : (lsR (imgA L B) L.length).getD k rg0 = imgA L B k := lsR_get _ hkl
  have hMk : (mixB L B k).getD k rg0 = B.getD k rg0 := mix_get (by omega)
  have hMl : (mixB L B k).length = L.length := by rw [mix_len (by omega), hBl]
  have hNl2 : (lsR (imgA L B) L.length).length = L.length := lsR_length _ _
  have hset : (mixB L B k).set k (min ((mixB L B k).getD k rg0).1 ((lsR (imgA L B) L.length).getD k rg0).1, max ((mixB L B k).getD k rg0).2 ((lsR (imgA L B) L.length).getD k rg0).2) = mixB L B (k + 1) := by
    rw [hNk, hMk]
    exact mix_set (by omega)
  have hgk : (lsR (hulA L B) L.length).getD k rg0 = (min ((mixB L B k).getD k rg0).1 ((lsR (imgA L B) L.length).getD k rg0).1, max ((mixB L B k).getD k rg0).2 ((lsR (imgA L B) L.length).getD k rg0).2) := by
    rw [hNk, hMk]
    exact lsR_get _ hkl
  have hin : inL L (lsR (hulA L B) L.length) k = (inR (min ((mixB L B k).getD k rg0).1 ((lsR (imgA L B) L.length).getD k rg0).1) (L.getD k lp0).llo (L.getD k lp0).lhi && inR (max ((mixB L B k).getD k rg0).2 ((lsR (imgA L B) L.length).getD k rg0).2) (L.getD k lp0).llo (L.getD k lp0).lhi) := by
    unfold inL bLo bHi
    rw [hgk]
  have hnone : inL L (lsR (hulA L B) L.length) k = false → R = (nilV, 12) := fun hb => by
    rw [decide_eq_false (show ¬ fstI (fun i => !inL L (lsR (hulA L B) L.length) i) L.length < 0 from fun h2 => by
      have h3 : (!inL L (lsR (hulA L B) L.length) k) = false := is_neg h2 k hkl
      rw [hb] at h3; cases h3)] at hR
    exact hR
  have z0 : (frC (((mixB L B k).set k (min ((mixB L B k).getD k rg0).1 ((lsR (imgA L B) L.length).getD k rg0).1, max ((mixB L B k).getD k rg0).2 ((lsR (imgA L B) L.length).getD k rg0).2)).getD k rg0))[0]? = some (I (min ((mixB L B k).getD k rg0).1 ((lsR (imgA L B) L.length).getD k rg0).1)) := by
    rw [List.getD_eq_getElem?_getD, List.getElem?_set_self (by omega)]; rfl
  have z1 : (frC (((mixB L B k).set k (min ((mixB L B k).getD k rg0).1 ((lsR (imgA L B) L.length).getD k rg0).1, max ((mixB L B k).getD k rg0).2 ((lsR (imgA L B) L.length).getD k rg0).2)).getD k rg0))[1]? = some (I (max ((mixB L B k).getD k rg0).2 ((lsR (imgA L B) L.length).getD k rg0).2)) := by
    rw [List.getD_eq_getElem?_getD, List.getElem?_set_self (by omega)]; rfl
  have hsl : ((mixB L B k).set k (min ((mixB L B k).getD k rg0).1 ((lsR (imgA L B) L.length).getD k rg0).1, max ((mixB L B k).getD k rg0).2 ((lsR (imgA L B) L.length).getD k rg0).2)).length = L.length := by rw [List.length_set, hMl]
  have wi1 := isIn_A (min ((mixB L B k).getD k rg0).1 ((lsR (imgA L B) L.length).getD k rg0).1) (L.getD k lp0).llo (L.getD k lp0).lhi
  have wi2 := isIn_A (max ((mixB L B k).getD k rg0).2 ((lsR (imgA L B) L.length).getD k rg0).2) (L.getD k lp0).llo (L.getD k lp0).lhi
  generalize inR (min ((mixB L B k).getD k rg0).1 ((lsR (imgA L B) L.length).getD k rg0).1) (L.getD k lp0).llo (L.getD k lp0).lhi = b1 at *
  generalize inR (max ((mixB L B k).getD k rg0).2 ((lsR (imgA L B) L.length).getD k rg0).2) (L.getD k lp0).llo (L.getD k lp0).lhi = b2 at *
  clear hNk hMk hgk hnext hlv hN hv hw hf2 hlt0 hR h1 hbR hb0
  cases b1
  · rw [hnone hin]
    clear hI hnone hin hset z1
    (repeat' (first | (with_reducible first | intro hg | refine mv (by constructor) ?_) | ((with_reducible first | refine zR ?_ ?_ | refine zW mixed ?_ ?_); exact kr) | ((with_reducible apply zK); exact rfl; exact tf) | ((with_reducible apply zCD); exact rfl) | ((with_reducible apply zCN); exact rfl) | ((with_reducible apply zC); exact rfl) | ((with_reducible refine zX ?_ ?_); exact rfl) | ((with_reducible refine zE (And.intro ?_ ?_)); exact kr) | (with_reducible refine zE ?_) | ((with_reducible apply zP); (first | exact o_indexF lp0 lpC_len (by decide) rfl rfl (by omega) rfl | exact o_indexF rg0 frC_len (by decide) rfl rfl (by omega) (by omega) | exact o_indexL (o := k * 2) rfl rfl (by omega) (by omega) (by omega) | exact o_loadF (v := I (min ((mixB L B k).getD k rg0).1 ((lsR (imgA L B) L.length).getD k rg0).1)) rg0 k 0 frC_len rfl rfl rfl (by omega) (by decide) (by exact z0) | exact o_loadF rg0 k 0 frC_len rfl rfl rfl (by omega) (by decide) rfl | exact o_loadF rg0 k 1 frC_len rfl rfl rfl (by omega) (by decide) rfl | exact dp | exact oc rfl (wi1) | exact oc rfl (wi2))) | ((with_reducible apply zN); exact dn) | ((with_reducible apply zA); exact da) | ((with_reducible apply zS); (first | exact o_storeFA (f := frC) k (min ((mixB L B k).getD k rg0).1 ((lsR (imgA L B) L.length).getD k rg0).1, max ((mixB L B k).getD k rg0).2 ((lsR (imgA L B) L.length).getD k rg0).2) frC_len rfl rfl rfl (by omega) (by omega) | exact ds)) | ((with_reducible apply zY); exact rfl; exact rfl; exact tf) | ((with_reducible apply zG); exact rfl; exact rfl; exact tf) | ((with_reducible apply zU); exact rfl; exact rfl) | ((with_reducible apply zD); exact rfl; exact rfl) | ((with_reducible apply zB); exact rfl; exact rfl)))
    ((with_reducible first | apply q_retR | apply q_retN); exact rl)
    rfl
  cases b2
  · rw [hnone hin]
    clear hI hnone hin hset
    (repeat' (first | (with_reducible first | intro hg | refine mv (by constructor) ?_) | ((with_reducible first | refine zR ?_ ?_ | refine zW mixed ?_ ?_); exact kr) | ((with_reducible apply zK); exact rfl; exact tf) | ((with_reducible apply zCD); exact rfl) | ((with_reducible apply zCN); exact rfl) | ((with_reducible apply zC); exact rfl) | ((with_reducible refine zX ?_ ?_); exact rfl) | ((with_reducible refine zE (And.intro ?_ ?_)); exact kr) | (with_reducible refine zE ?_) | ((with_reducible apply zP); (first | exact o_indexF lp0 lpC_len (by decide) rfl rfl (by omega) rfl | exact o_indexF rg0 frC_len (by decide) rfl rfl (by omega) (by omega) | exact o_indexL (o := k * 2) rfl rfl (by omega) (by omega) (by omega) | exact o_loadF (v := I (min ((mixB L B k).getD k rg0).1 ((lsR (imgA L B) L.length).getD k rg0).1)) rg0 k 0 frC_len rfl rfl rfl (by omega) (by decide) (by exact z0) | exact o_loadF (v := I (max ((mixB L B k).getD k rg0).2 ((lsR (imgA L B) L.length).getD k rg0).2)) rg0 k 1 frC_len rfl rfl rfl (by omega) (by decide) (by exact z1) | exact o_loadF rg0 k 0 frC_len rfl rfl rfl (by omega) (by decide) rfl | exact o_loadF rg0 k 1 frC_len rfl rfl rfl (by omega) (by decide) rfl | exact dp | exact oc rfl (wi1) | exact oc rfl (wi2))) | ((with_reducible apply zN); exact dn) | ((with_reducible apply zA); exact da) | ((with_reducible apply zS); (first | exact o_storeFA (f := frC) k (min ((mixB L B k).getD k rg0).1 ((lsR (imgA L B) L.length).getD k rg0).1, max ((mixB L B k).getD k rg0).2 ((lsR (imgA L B) L.length).getD k rg0).2) frC_len rfl rfl rfl (by omega) (by omega) | exact ds)) | ((with_reducible apply zY); exact rfl; exact rfl; exact tf) | ((with_reducible apply zG); exact rfl; exact rfl; exact tf) | ((with_reducible apply zU); exact rfl; exact rfl) | ((with_reducible apply zD); exact rfl; exact rfl) | ((with_reducible apply zB); exact rfl; exact rfl)))
    ((with_reducible first | apply q_retR | apply q_retN); exact rl)
    rfl
  have hI' : ∀ i, i < k + 1 → inL L (lsR (hulA L B) L.length) i = true := fun i hi => by
    by_cases e : i = k
    · rw [e]; exact hin
    · exact hI i (by omega)
  clear hI hnone hin
  (repeat' (first | (with_reducible first | intro hg | refine mv (by constructor) ?_) | ((with_reducible first | refine zR ?_ ?_ | refine zW mixed ?_ ?_); exact kr) | ((with_reducible apply zK); exact rfl; exact tf) | ((with_reducible apply zCD); exact rfl) | ((with_reducible apply zCN); exact rfl) | ((with_reducible apply zC); exact rfl) | ((with_reducible refine zX ?_ ?_); exact rfl) | ((with_reducible refine zE (And.intro ?_ ?_)); exact kr) | (with_reducible refine zE ?_) | ((with_reducible apply zP); (first | exact o_indexF lp0 lpC_len (by decide) rfl rfl (by omega) rfl | exact o_indexF rg0 frC_len (by decide) rfl rfl (by omega) (by omega) | exact o_indexL (o := k * 2) rfl rfl (by omega) (by omega) (by omega) | exact o_loadF (v := I (min ((mixB L B k).getD k rg0).1 ((lsR (imgA L B) L.length).getD k rg0).1)) rg0 k 0 frC_len rfl rfl rfl (by omega) (by decide) (by exact z0) | exact o_loadF (v := I (max ((mixB L B k).getD k rg0).2 ((lsR (imgA L B) L.length).getD k rg0).2)) rg0 k 1 frC_len rfl rfl rfl (by omega) (by decide) (by exact z1) | exact o_loadF rg0 k 0 frC_len rfl rfl rfl (by omega) (by decide) rfl | exact o_loadF rg0 k 1 frC_len rfl rfl rfl (by omega) (by decide) rfl | exact dp | exact oc rfl (wi1) | exact oc rfl (wi2))) | ((with_reducible apply zN); exact dn) | ((with_reducible apply zA); exact da) | ((with_reducible apply zS); (first | exact o_storeFA (f := frC) k (min ((mixB L B k).getD k rg0).1 ((lsR (imgA L B) L.length).getD k rg0).1, max ((mixB L B k).getD k rg0).2 ((lsR (imgA L B) L.length).getD k rg0).2) frC_len rfl rfl rfl (by omega) (by omega) | exact ds)) | ((with_reducible apply zY); exact rfl; exact rfl; exact tf) | ((with_reducible apply zG); exact rfl; exact rfl; exact tf) | ((with_reducible apply zU); exact rfl; exact rfl) | ((with_reducible apply zD); exact rfl; exact rfl) | ((with_reducible apply zB); exact rfl; exact rfl)))
  exact ⟨k + 1, ⟨hkl, hI'⟩, by omega, (And.intro rfl (And.intro rfl (And.intro rfl (And.intro rfl (And.intro rfl (And.intro rfl trivial)))))), (And.intro rfl (And.intro rfl (And.intro (congrArg (fun l => some (Blk.mk _ (rgS l))) hset) trivial)))⟩

end Go.Proofs.YtfcfmpdpjmbcnaaGreat
