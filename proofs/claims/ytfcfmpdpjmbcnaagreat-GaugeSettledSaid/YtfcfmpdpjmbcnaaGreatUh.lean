/- Loopers: a tick, and boxes after a tick. -/
import Derived.Test.YtfcfmpdpjmbcnaaGreatPb
import Derived.Test.YtfcfmpdpjmbcnaaGreatUv
import Derived.Test.YtfcfmpdpjmbcnaaGreatM9
set_option linter.unusedVariables false
set_option linter.unusedSimpArgs false
namespace Go.Proofs.YtfcfmpdpjmbcnaaGreat
open Go.RowKit
set_option maxRecDepth 20000
set_option maxHeartbeats 8000000

abbrev lpS (L : List Lp) : List DV := (L.map lpC).flatten
abbrev chC (L : List Lp) : List DV := [.slice L.length (lpS L)]
abbrev chV (L : List Lp) : DV := .agg (chC L)
abbrev rgS (B : List (Int × Int)) : List DV := (B.map frC).flatten
abbrev rgV (B : List (Int × Int)) : DV := .slice B.length (rgS B)
theorem lpC_len (x : Lp) : (lpC x).length = 7 := rfl
theorem frC_len (x : Int × Int) : (frC x).length = 2 := rfl
theorem rgS_len (B : List (Int × Int)) : (rgS B).length = B.length * 2 := flat_len frC 2 frC_len B
theorem rgS_flat : ∀ B : List (Int × Int), DV.flatL (rgS B) = true
  | [] => rfl
  | _ :: B => rgS_flat B
theorem rgS_snoc (B : List (Int × Int)) (r : Int × Int) : rgS B ++ [I r.1, I r.2] = rgS (B ++ [r]) := by simp [rgS]
theorem isIn_A (n a b : Int) : AC Tryz.prog 75 [I n, .agg [I a, I b]] (B (inR n a b)) := by
  refine ac_body Tryz.func75 rfl (by kernel_rfl) fun w0 ok => ?_; show AWp _ (ctx0 w0 ok _) _ (ARet _ _ _) (entry _)
  (repeat' (first | (with_reducible first | intro hg | refine mv (by constructor) ?_) | ((with_reducible first | refine zR ?_ ?_ | refine zW mixed ?_ ?_); exact kr) | ((with_reducible apply zK); exact rfl; exact tf) | ((with_reducible apply zCD); exact rfl) | ((with_reducible apply zCN); exact rfl) | ((with_reducible apply zC); exact rfl) | ((with_reducible refine zX ?_ ?_); exact rfl) | ((with_reducible refine zE (And.intro ?_ ?_)); exact kr) | (with_reducible refine zE ?_) | ((with_reducible apply zP); (first | exact dp | exact oc rfl (within_A _ _ _))) | ((with_reducible apply zN); exact dn) | ((with_reducible apply zA); exact da) | ((with_reducible apply zS); exact ds) | ((with_reducible apply zY); exact rfl; exact rfl; exact tf) | ((with_reducible apply zG); exact rfl; exact rfl; exact tf) | ((with_reducible apply zU); exact rfl; exact rfl) | ((with_reducible apply zD); exact rfl; exact rfl) | ((with_reducible apply zB); exact rfl; exact rfl)))
  ((with_reducible first | apply q_retR | apply q_retN); exact rl)
  rfl
theorem correction_A (L : List Lp) (hL : ∀ x ∈ L, LpOk x) (h5 : L.length ≤ 7) (i : Nat) (hi : i ≤ L.length) (hs : List Int) (hl : hs.length = L.length) (hb : ∀ j, j < L.length → -2000 ≤ nth hs j ∧ nth hs j ≤ 2000) :
    AC Tryz.prog 126 [chV L, I i, isl hs] (I (crr L (nth hs) i)) := by
  by_cases he : i = L.length
  · have e : crr L (nth hs) i = 0 := by unfold crr; simp [he]
    rw [e]
    subst he
    refine ac_body Tryz.func126 rfl (by kernel_rfl) fun w0 ok => ?_; show AWp _ (ctx0 w0 ok _) _ (ARet _ _ _) (entry _)
    (repeat' (first | (with_reducible first | intro hg | refine mv (by constructor) ?_) | ((with_reducible first | refine zR ?_ ?_ | refine zW mixed ?_ ?_); exact kr) | ((with_reducible apply zK); exact rfl; exact tf) | ((with_reducible apply zCD); exact rfl) | ((with_reducible apply zCN); exact rfl) | ((with_reducible apply zC); exact rfl) | ((with_reducible refine zX ?_ ?_); exact rfl) | ((with_reducible refine zE (And.intro ?_ ?_)); exact kr) | (with_reducible refine zE ?_) | ((with_reducible apply zP); exact dp) | ((with_reducible apply zN); exact dn) | ((with_reducible apply zA); exact da) | ((with_reducible apply zS); exact ds) | ((with_reducible apply zY); exact rfl; exact rfl; exact tf) | ((with_reducible apply zG); exact rfl; exact rfl; exact tf) | ((with_reducible apply zU); exact rfl; exact rfl) | ((with_reducible apply zD); exact rfl; exact rfl) | ((with_reducible apply zB); exact rfl; exact rfl)))
    ((with_reducible first | apply q_retR | apply q_retN); exact rl)
    rfl
  · have hlt : i < L.length := by omega
    have e : crr L (nth hs) i = cor1 (lpA L i) (nth hs i) := by unfold crr; rw [show (i == L.length) = false by simp [he]]; rfl
    rw [e]
    have hx := hL _ (lpA_mem hlt)
    have h1 : -1000 ≤ (L.getD i lp0).tgt ∧ (L.getD i lp0).tgt ≤ 1000 := hx.t
    have h2 : 1 ≤ (L.getD i lp0).den ∧ (L.getD i lp0).den ≤ 100 := hx.e
    obtain ⟨h3, h4⟩ : ((L.getD i lp0).num * (nth hs i - (L.getD i lp0).tgt)).natAbs ≤ 300000 ∧ (((L.getD i lp0).num * (nth hs i - (L.getD i lp0).tgt)).tdiv (L.getD i lp0).den).natAbs ≤ 300000 := cor1_bnd hx (hb i hlt)
    have h6 := hb i hlt
    clear e hx hb hL
    have hne : ¬ ((i : Int) = (L.length : Int)) := by omega
    refine ac_body Tryz.func126 rfl (by kernel_rfl) fun w0 ok => ?_; show AWp _ (ctx0 w0 ok _) _ (ARet _ _ _) (entry _)
    (repeat' (first | (with_reducible first | intro hg | refine mv (by constructor) ?_) | ((with_reducible first | refine zR ?_ ?_ | refine zW mixed ?_ ?_); exact kr) | ((with_reducible apply zK); exact rfl; exact tf) | ((with_reducible apply zCD); exact rfl) | ((with_reducible apply zCN); exact rfl) | ((with_reducible apply zC); exact rfl) | ((with_reducible refine zX ?_ ?_); exact rfl) | ((with_reducible refine zE (And.intro ?_ ?_)); exact kr) | (with_reducible refine zE ?_) | ((with_reducible apply zP); (first | exact o_indexF lp0 lpC_len (by decide) rfl rfl (by omega) rfl | exact dp)) | ((with_reducible apply zN); exact dn) | ((with_reducible apply zA); exact da) | ((with_reducible apply zS); exact ds) | ((with_reducible apply zY); exact rfl; exact rfl; exact tf) | ((with_reducible apply zG); exact rfl; exact rfl; exact tf) | ((with_reducible apply zU); exact rfl; exact rfl) | ((with_reducible apply zD); exact rfl; exact rfl) | ((with_reducible apply zB); exact rfl; exact rfl)))
    ((with_reducible first | apply q_retR | apply q_retN); exact rl)
    rfl
theorem step_A (L : List Lp) (hL : ∀ x ∈ L, LpOk x) (h5 : L.length ≤ 7) (hs : List Int) (hl : hs.length = L.length) (hb : ∀ j, j < L.length → -2000 ≤ nth hs j ∧ nth hs j ≤ 2000) (d : Nat → Int) (hd : ∀ j, j < L.length → -2000 ≤ d j ∧ d j ≤ 2000)
    (K : Nat) (he : Enters Tryz.prog K) {fv : DV} {caps : List DV} (hv : FV K fv caps) (hp : ∀ i : Nat, i < L.length → AC Tryz.prog K ([I i] ++ caps) (I (d i))) :
    AC Tryz.prog 107 [chV L, isl hs, fv] (isl (lst (aft L (nth hs) d) L.length)) := by
  refine ac_body Tryz.func107 rfl (by kernel_rfl) fun w0 ok => ?_; show AWp _ (ctx0 w0 ok _) _ (ARet _ _ _) (entry _)
  (repeat' (first | (with_reducible first | intro hg | refine mv (by constructor) ?_) | ((with_reducible first | refine zR ?_ ?_ | refine zW mixed ?_ ?_); exact kr) | ((with_reducible apply zK); exact rfl; exact tf) | ((with_reducible apply zCD); exact rfl) | ((with_reducible apply zCN); exact rfl) | ((with_reducible apply zC); exact rfl) | ((with_reducible refine zX ?_ ?_); exact rfl) | ((with_reducible refine zE (And.intro ?_ ?_)); exact kr) | (with_reducible refine zE ?_) | ((with_reducible apply zP); exact dp) | ((with_reducible apply zN); exact dn) | ((with_reducible apply zA); exact da) | ((with_reducible apply zS); exact ds) | ((with_reducible apply zY); exact rfl; exact rfl; exact tf) | ((with_reducible apply zG); exact rfl; exact rfl; exact tf) | ((with_reducible apply zU); exact rfl; exact rfl) | ((with_reducible apply zD); exact rfl; exact rfl) | ((with_reducible apply zB); exact rfl; exact rfl)))
  refine awp_loopL (α := Nat) (fun k => [(1, .d (isl hs)), (2, .d fv), (3, .ptr 3 0), (7, ownS 35 k), (10, .d (isl hs)), (11, .d (I hs.length)), (12, .d (I k))]) (fun k => (3, ⟨119, chC L⟩) :: ownM 35 3 (ivs (lst (aft L (nth hs) d) k)) k) (fun k => k ≤ L.length) (fun k => L.length - k) 0 (Nat.zero_le _) (And.intro rfl (And.intro rfl (And.intro rfl (And.intro rfl (And.intro rfl (And.intro rfl (And.intro rfl trivial))))))) (And.intro rfl trivial) fun k hk => ?_
  by_cases hlt : k < L.length
  · have c1 := correction_A L hL h5 k (by omega) hs hl hb
    have c2 := correction_A L hL h5 (k + 1) (by omega) hs hl hb
    have c3 := hp k hlt
    have b1 := crr_bnd hL (h := nth hs) (i := k) (by omega) (hb k)
    have b2 := crr_bnd hL (h := nth hs) (i := k + 1) (by omega) (hb (k + 1))
    have b3 := hb k hlt
    have b4 := hd k hlt
    have e : aft L (nth hs) d k = nth hs k - crr L (nth hs) k + crr L (nth hs) (k + 1) + d k := rfl
    have ek : ((k + 1 : Nat) : Int) = (k : Int) + 1 := rfl
    rw [ek] at c2
    generalize crr L (nth hs) k = x at *
    generalize crr L (nth hs) (k + 1) = y at *
    clear hb hd hp hL
    rcases k with _ | k
    · (repeat' (first | (with_reducible first | intro hg | refine mv (by constructor) ?_) | ((with_reducible first | refine zR ?_ ?_ | refine zW mixed ?_ ?_); exact kr) | ((with_reducible apply zK); exact rfl; exact tf) | ((with_reducible apply zCD); exact rfl) | ((with_reducible apply zCN); exact rfl) | ((with_reducible apply zC); exact rfl) | ((with_reducible refine zX ?_ ?_); exact rfl) | ((with_reducible refine zE (And.intro ?_ ?_)); exact kr) | (with_reducible refine zE ?_) | ((with_reducible apply zP); (first | exact o_callF he (by exact hv.v rfl) rfl c3 (.inl rfl) | exact dp | exact oc rfl (c1) | exact oc rfl (c2))) | ((with_reducible apply zN); exact dn) | ((with_reducible apply zA); exact da) | ((with_reducible apply zS); exact ds) | ((with_reducible apply zY); exact rfl; exact rfl; exact tf) | ((with_reducible apply zG); exact rfl; exact rfl; exact tf) | ((with_reducible apply zU); exact rfl; exact rfl) | ((with_reducible apply zD); exact rfl; exact rfl) | ((with_reducible apply zB); exact rfl; exact rfl)))
      exact ⟨1, hlt, by omega, (And.intro rfl (And.intro rfl (And.intro rfl (And.intro rfl (And.intro rfl (And.intro rfl (And.intro rfl trivial))))))), (And.intro rfl (And.intro (congrArg (fun v => some (Blk.mk _ [I v])) e.symm) trivial))⟩
    · (repeat' (first | (with_reducible first | intro hg | refine mv (by constructor) ?_) | ((with_reducible first | refine zR ?_ ?_ | refine zW mixed ?_ ?_); exact kr) | ((with_reducible apply zK); exact rfl; exact tf) | ((with_reducible apply zCD); exact rfl) | ((with_reducible apply zCN); exact rfl) | ((with_reducible apply zC); exact rfl) | ((with_reducible refine zX ?_ ?_); exact rfl) | ((with_reducible refine zE (And.intro ?_ ?_)); exact kr) | (with_reducible refine zE ?_) | ((with_reducible apply zP); (first | exact o_callF he (by exact hv.v rfl) rfl c3 (.inl rfl) | exact dp | exact oc rfl (c1) | exact oc rfl (c2))) | ((with_reducible apply zN); exact dn) | ((with_reducible apply zA); exact da) | ((with_reducible apply zS); exact ds) | ((with_reducible apply zY); exact rfl; exact rfl; exact tf) | ((with_reducible apply zG); exact rfl; exact rfl; exact tf) | ((with_reducible apply zU); exact rfl; exact rfl) | ((with_reducible apply zD); exact rfl; exact rfl) | ((with_reducible apply zB); exact rfl; exact rfl)))
      exact ⟨k + 2, hlt, by omega, (And.intro rfl (And.intro rfl (And.intro rfl (And.intro rfl (And.intro rfl (And.intro rfl (And.intro rfl trivial))))))), (And.intro rfl (And.intro (blk_snoc _ _ _ e.symm) trivial))⟩
  · obtain rfl : k = L.length := by omega
    refine awp_own 7 35 (t := 3) (aft L (nth hs) d) rfl (fun j hj => by rw [hj]; rfl) ?_
    (repeat' (first | (with_reducible first | intro hg | refine mv (by constructor) ?_) | ((with_reducible first | refine zR ?_ ?_ | refine zW mixed ?_ ?_); exact kr) | ((with_reducible apply zK); exact rfl; exact tf) | ((with_reducible apply zCD); exact rfl) | ((with_reducible apply zCN); exact rfl) | ((with_reducible apply zC); exact rfl) | ((with_reducible refine zX ?_ ?_); exact rfl) | ((with_reducible refine zE (And.intro ?_ ?_)); exact kr) | (with_reducible refine zE ?_) | ((with_reducible apply zP); exact dp) | ((with_reducible apply zN); exact dn) | ((with_reducible apply zA); exact da) | ((with_reducible apply zS); exact ds) | ((with_reducible apply zY); exact rfl; exact rfl; exact tf) | ((with_reducible apply zG); exact rfl; exact rfl; exact tf) | ((with_reducible apply zU); exact rfl; exact rfl) | ((with_reducible apply zD); exact rfl; exact rfl) | ((with_reducible apply zB); exact rfl; exact rfl)))
    ((with_reducible first | apply q_retR | apply q_retN); exact rl)
    rfl
/-! A box after a tick. -/
theorem next1_A (L : List Lp) (i : Nat) (hi : i < L.length) (hm : L.length ≤ 1000) : AC Tryz.prog 108 ([I i] ++ [.ref (chC L)]) (I (dLo L i)) := by
  refine ac_body Tryz.func108 rfl (by kernel_rfl) fun w0 ok => ?_; show AWp _ (ctx0 w0 ok _) _ (ARet _ _ _) (entry _)
  (repeat' (first | (with_reducible first | intro hg | refine mv (by constructor) ?_) | ((with_reducible first | refine zR ?_ ?_ | refine zW mixed ?_ ?_); exact kr) | ((with_reducible apply zK); exact rfl; exact tf) | ((with_reducible apply zCD); exact rfl) | ((with_reducible apply zCN); exact rfl) | ((with_reducible apply zC); exact rfl) | ((with_reducible refine zX ?_ ?_); exact rfl) | ((with_reducible refine zE (And.intro ?_ ?_)); exact kr) | (with_reducible refine zE ?_) | ((with_reducible apply zP); (first | exact o_indexF lp0 lpC_len (by decide) rfl rfl (by omega) rfl | exact dp)) | ((with_reducible apply zN); exact dn) | ((with_reducible apply zA); exact da) | ((with_reducible apply zS); exact ds) | ((with_reducible apply zY); exact rfl; exact rfl; exact tf) | ((with_reducible apply zG); exact rfl; exact rfl; exact tf) | ((with_reducible apply zU); exact rfl; exact rfl) | ((with_reducible apply zD); exact rfl; exact rfl) | ((with_reducible apply zB); exact rfl; exact rfl)))
  ((with_reducible first | apply q_retR | apply q_retN); exact rl)
  rfl
theorem next2_A (L : List Lp) (i : Nat) (hi : i < L.length) (hm : L.length ≤ 1000) : AC Tryz.prog 109 ([I i] ++ [.ref (chC L)]) (I (dHi L i)) := by
  refine ac_body Tryz.func109 rfl (by kernel_rfl) fun w0 ok => ?_; show AWp _ (ctx0 w0 ok _) _ (ARet _ _ _) (entry _)
  (repeat' (first | (with_reducible first | intro hg | refine mv (by constructor) ?_) | ((with_reducible first | refine zR ?_ ?_ | refine zW mixed ?_ ?_); exact kr) | ((with_reducible apply zK); exact rfl; exact tf) | ((with_reducible apply zCD); exact rfl) | ((with_reducible apply zCN); exact rfl) | ((with_reducible apply zC); exact rfl) | ((with_reducible refine zX ?_ ?_); exact rfl) | ((with_reducible refine zE (And.intro ?_ ?_)); exact kr) | (with_reducible refine zE ?_) | ((with_reducible apply zP); (first | exact o_indexF lp0 lpC_len (by decide) rfl rfl (by omega) rfl | exact dp)) | ((with_reducible apply zN); exact dn) | ((with_reducible apply zA); exact da) | ((with_reducible apply zS); exact ds) | ((with_reducible apply zY); exact rfl; exact rfl; exact tf) | ((with_reducible apply zG); exact rfl; exact rfl; exact tf) | ((with_reducible apply zU); exact rfl; exact rfl) | ((with_reducible apply zD); exact rfl; exact rfl) | ((with_reducible apply zB); exact rfl; exact rfl)))
  ((with_reducible first | apply q_retR | apply q_retN); exact rl)
  rfl
theorem rgS_succ (f : Nat → Int × Int) (k : Nat) : some (Blk.mk 77 (rgS (lsR f k) ++ [I (f k).1, I (f k).2])) = some ⟨77, rgS (lsR f (k + 1))⟩ := by rw [rgS_snoc, lsR_succ]
/-- A box whose ends are small. -/
def BxS (L : List Lp) (B : List (Int × Int)) : Prop := B.length = L.length ∧ ∀ j, j < L.length → (-2000 ≤ bLo B j ∧ bLo B j ≤ 2000) ∧ (-2000 ≤ bHi B j ∧ bHi B j ≤ 2000)
theorem next_A (L : List Lp) (hL : ∀ x ∈ L, LpOk x) (h0 : 0 < L.length) (h5 : L.length ≤ 7) (B : List (Int × Int)) (hB : BxS L B) : ACo Tryz.prog 76 [chV L, rgV B] 77 L.length 2 (rgS (lsR (imgA L B) L.length)) := by
  obtain ⟨hl, hb⟩ := hB
  have ilo : ∀ j, j < L.length → nth (lst (bLo B) L.length) j = bLo B j := fun j hj => lst_nth _ hj
  have ihi : ∀ j, j < L.length → nth (lst (bHi B) L.length) j = bHi B j := fun j hj => lst_nth _ hj
  have s1 := step_A L hL h5 (lst (bLo B) L.length) (lst_length _ _) (fun j hj => by rw [ilo j hj]; exact (hb j hj).1) (dLo L) (fun j hj => by have h : -1000 ≤ dLo L j ∧ dLo L j ≤ 1000 := (hL _ (lpA_mem hj)).d1; omega) 108 (EntI.eq (P := Tryz.prog) (f := 108)) (fv := .fn (.func 108) [] [.ref (chC L)]) .fn (fun i hi => next1_A L i hi (by omega))
  have s2 := step_A L hL h5 (lst (bHi B) L.length) (lst_length _ _) (fun j hj => by rw [ihi j hj]; exact (hb j hj).2) (dHi L) (fun j hj => by have h : -1000 ≤ dHi L j ∧ dHi L j ≤ 1000 := (hL _ (lpA_mem hj)).d2; omega) 109 (EntI.eq (P := Tryz.prog) (f := 109)) (fv := .fn (.func 109) [] [.ref (chC L)]) .fn (fun i hi => next2_A L i hi (by omega))
  have crE : ∀ (f g : Nat → Int) (i : Nat), (∀ j, j < L.length → f j = g j) → i ≤ L.length → crr L f i = crr L g i := fun f g i h hi => by
    unfold crr
    by_cases e : i = L.length
    · simp [e]
    · rw [h i (by omega)]
  have afE : ∀ (f g d : Nat → Int) (i : Nat), (∀ j, j < L.length → f j = g j) → i < L.length → aft L f d i = aft L g d i := fun f g d i h hi => by
    unfold aft
    rw [crE f g i h (by omega), crE f g (i + 1) h (by omega), h i hi]
  have lsE : ∀ (f g : Nat → Int) (n : Nat), (∀ i, i < n → f i = g i) → lst f n = lst g n := fun f g n h => List.map_congr_left fun i hi => h i (List.mem_range.1 hi)
  rw [lsE _ (fun i => (imgA L B i).1) L.length (fun i hi => afE _ _ _ i ilo hi)] at s1
  rw [lsE _ (fun i => (imgA L B i).2) L.length (fun i hi => afE _ _ _ i ihi hi)] at s2
  clear crE afE lsE ilo ihi hL
  refine aco_body Tryz.func76 rfl (by kernel_rfl) fun w0 ok => ?_; show AWp _ (ctx0 w0 ok _) _ (ARetO _ _ _ _ _) (entry _)
  (repeat' (first | (with_reducible first | intro hg | refine mv (by constructor) ?_) | ((with_reducible first | refine zR ?_ ?_ | refine zW mixed ?_ ?_); exact kr) | ((with_reducible apply zK); exact rfl; exact tf) | ((with_reducible apply zCD); exact rfl) | ((with_reducible apply zCN); exact rfl) | ((with_reducible apply zC); exact rfl) | ((with_reducible refine zX ?_ ?_); exact rfl) | ((with_reducible refine zE (And.intro ?_ ?_)); exact kr) | (with_reducible refine zE ?_) | ((with_reducible apply zP); exact dp) | ((with_reducible apply zN); exact dn) | ((with_reducible apply zA); exact da) | ((with_reducible apply zS); exact ds) | ((with_reducible apply zY); exact rfl; exact rfl; exact tf) | ((with_reducible apply zG); exact rfl; exact rfl; exact tf) | ((with_reducible apply zU); exact rfl; exact rfl) | ((with_reducible apply zD); exact rfl; exact rfl) | ((with_reducible apply zB); exact rfl; exact rfl)))
  refine awp_loopL (α := Nat) (fun k => [(1, .d (rgV B)), (2, .ptr 2 0), (5, ownS 21 k), (6, ownS 26 k), (11, .d (rgV B)), (12, .d (I B.length)), (13, .d (I k))]) (fun k => (2, ⟨119, chC L⟩) :: (ownM 21 3 (ivs (lst (bLo B) k)) k ++ ownM 26 3 (ivs (lst (bHi B) k)) k)) (fun k => k ≤ L.length) (fun k => L.length - k) 0 (Nat.zero_le _) (And.intro rfl (And.intro rfl (And.intro rfl (And.intro rfl (And.intro rfl (And.intro rfl (And.intro rfl trivial))))))) (And.intro rfl trivial) fun k hk => ?_
  by_cases hlt : k < L.length
  · rcases k with _ | k
    · (repeat' (first | (with_reducible first | intro hg | refine mv (by constructor) ?_) | ((with_reducible first | refine zR ?_ ?_ | refine zW mixed ?_ ?_); exact kr) | ((with_reducible apply zK); exact rfl; exact tf) | ((with_reducible apply zCD); exact rfl) | ((with_reducible apply zCN); exact rfl) | ((with_reducible apply zC); exact rfl) | ((with_reducible refine zX ?_ ?_); exact rfl) | ((with_reducible refine zE (And.intro ?_ ?_)); exact kr) | (with_reducible refine zE ?_) | ((with_reducible apply zP); (first | exact o_indexF rg0 frC_len (by decide) rfl rfl (by omega) rfl | exact dp)) | ((with_reducible apply zN); exact dn) | ((with_reducible apply zA); exact da) | ((with_reducible apply zS); exact ds) | ((with_reducible apply zY); exact rfl; exact rfl; exact tf) | ((with_reducible apply zG); exact rfl; exact rfl; exact tf) | ((with_reducible apply zU); exact rfl; exact rfl) | ((with_reducible apply zD); exact rfl; exact rfl) | ((with_reducible apply zB); exact rfl; exact rfl)))
      exact ⟨1, hlt, by omega, (And.intro rfl (And.intro rfl (And.intro rfl (And.intro rfl (And.intro rfl (And.intro rfl (And.intro rfl trivial))))))), (And.intro rfl (And.intro rfl (And.intro rfl trivial)))⟩
    · (repeat' (first | (with_reducible first | intro hg | refine mv (by constructor) ?_) | ((with_reducible first | refine zR ?_ ?_ | refine zW mixed ?_ ?_); exact kr) | ((with_reducible apply zK); exact rfl; exact tf) | ((with_reducible apply zCD); exact rfl) | ((with_reducible apply zCN); exact rfl) | ((with_reducible apply zC); exact rfl) | ((with_reducible refine zX ?_ ?_); exact rfl) | ((with_reducible refine zE (And.intro ?_ ?_)); exact kr) | (with_reducible refine zE ?_) | ((with_reducible apply zP); (first | exact o_indexF rg0 frC_len (by decide) rfl rfl (by omega) rfl | exact dp)) | ((with_reducible apply zN); exact dn) | ((with_reducible apply zA); exact da) | ((with_reducible apply zS); exact ds) | ((with_reducible apply zY); exact rfl; exact rfl; exact tf) | ((with_reducible apply zG); exact rfl; exact rfl; exact tf) | ((with_reducible apply zU); exact rfl; exact rfl) | ((with_reducible apply zD); exact rfl; exact rfl) | ((with_reducible apply zB); exact rfl; exact rfl)))
      exact ⟨k + 2, hlt, by omega, (And.intro rfl (And.intro rfl (And.intro rfl (And.intro rfl (And.intro rfl (And.intro rfl (And.intro rfl trivial))))))), (And.intro rfl (And.intro (blk_snoc _ (bLo B) _ rfl) (And.intro (blk_snoc _ (bHi B) _ rfl) trivial)))⟩
  obtain rfl : k = L.length := by omega
  obtain ⟨n, hn⟩ : ∃ n, L.length = n + 1 := ⟨L.length - 1, by omega⟩
  refine awp_own 5 21 (t := 3) (bLo B) rfl (fun j hj => by rw [hj]; rfl) ?_
  refine awp_own (n := L.length) 6 26 (t := 3) (bHi B) (by rw [hn]; rfl) (fun j hj => by rw [hj]; rfl) ?_
  refine awp_freeze 2 rfl ?_
  (repeat' (first | (with_reducible first | intro hg | refine mv (by constructor) ?_) | ((with_reducible first | refine zR ?_ ?_ | refine zW mixed ?_ ?_); exact kr) | ((with_reducible apply zK); exact rfl; exact tf) | ((with_reducible apply zCD); exact rfl) | ((with_reducible apply zCN); exact rfl) | ((with_reducible apply zC); exact rfl) | ((with_reducible refine zX ?_ ?_); exact rfl) | ((with_reducible refine zE (And.intro ?_ ?_)); exact kr) | (with_reducible refine zE ?_) | ((with_reducible apply zP); (first | exact dp | exact oc rfl (s1) | exact oc rfl (s2))) | ((with_reducible apply zN); exact dn) | ((with_reducible apply zA); exact da) | ((with_reducible apply zS); exact ds) | ((with_reducible apply zY); exact rfl; exact rfl; exact tf) | ((with_reducible apply zG); exact rfl; exact rfl; exact tf) | ((with_reducible apply zU); exact rfl; exact rfl) | ((with_reducible apply zD); exact rfl; exact rfl) | ((with_reducible apply zB); exact rfl; exact rfl)))
  refine awp_loopL (α := Nat) (fun k => [(5, .d (isl (lst (fun i => (imgA L B i).1) L.length))), (6, .d (isl (lst (fun i => (imgA L B i).2) L.length))), (9, ownZ 52 2 k), (37, .d (I L.length)), (38, .d (I k))]) (fun k => ownM 52 77 (rgS (lsR (imgA L B) k)) k) (fun k => k ≤ L.length) (fun k => L.length - k) 0 (Nat.zero_le _) (And.intro rfl (And.intro rfl (And.intro rfl (And.intro (congrArg (fun n : Nat => AV.d (I n)) (lst_length _ _)) (And.intro (rfl) trivial))))) trivial fun k hk => ?_
  by_cases hlt : k < L.length
  · have l1 := lst_length (fun i => (imgA L B i).1) L.length
    have l2 := lst_length (fun i => (imgA L B i).2) L.length
    have g1 := lst_nth (fun i => (imgA L B i).1) hlt
    have g2 := lst_nth (fun i => (imgA L B i).2) hlt
    have hsn := rgS_succ (imgA L B) k
    have hln := rgS_len (lsR (imgA L B) k)
    rw [lsR_length] at hln
    generalize lst (fun i => (imgA L B i).1) L.length = P at *
    generalize lst (fun i => (imgA L B i).2) L.length = Q at *
    rw [← g1, ← g2] at hsn
    rcases k with _ | k
    · (repeat' (first | (with_reducible first | intro hg | refine mv (by constructor) ?_) | ((with_reducible first | refine zR ?_ ?_ | refine zW mixed ?_ ?_); exact kr) | ((with_reducible apply zK); exact rfl; exact tf) | ((with_reducible apply zCD); exact rfl) | ((with_reducible apply zCN); exact rfl) | ((with_reducible apply zC); exact rfl) | ((with_reducible refine zX ?_ ?_); exact rfl) | ((with_reducible refine zE (And.intro ?_ ?_)); exact kr) | (with_reducible refine zE ?_) | ((with_reducible apply zP); exact dp) | ((with_reducible apply zN); exact dn) | ((with_reducible apply zA); exact da) | ((with_reducible apply zS); exact ds) | ((with_reducible apply zY); exact rfl; exact rfl; exact tf) | ((with_reducible apply zG); exact rfl; exact rfl; exact tf) | ((with_reducible apply zU); exact rfl; exact rfl) | ((with_reducible apply zD); exact rfl; exact rfl) | ((with_reducible apply zB); exact rfl; exact rfl)))
      exact ⟨1, hlt, by omega, (And.intro rfl (And.intro rfl (And.intro rfl (And.intro rfl (And.intro rfl trivial))))), (And.intro (hsn) trivial)⟩
    · (repeat' (first | (with_reducible first | intro hg | refine mv (by constructor) ?_) | ((with_reducible first | refine zR ?_ ?_ | refine zW mixed ?_ ?_); exact kr) | ((with_reducible apply zK); exact rfl; exact tf) | ((with_reducible apply zCD); exact rfl) | ((with_reducible apply zCN); exact rfl) | ((with_reducible apply zC); exact rfl) | ((with_reducible refine zX ?_ ?_); exact rfl) | ((with_reducible refine zE (And.intro ?_ ?_)); exact kr) | (with_reducible refine zE ?_) | ((with_reducible apply zP); exact dp) | ((with_reducible apply zN); exact dn) | ((with_reducible apply zA); (first | ((apply o_app); (case hx => exact rfl); (case hm => exact rfl); (case hy => exact .own rfl rfl); (case hty => exact rfl); (case hl => solve | exact hln | rfl); (case hcl => solve | rfl | exact hln | simp); (case hpos => omega); (case hb => omega); (case hb2 => omega); (case hnew => exact rfl)) | ((apply o_app); (case hx => exact rfl); (case hm => exact rfl); (case hy => exact .sl rfl); (case hty => exact rfl); (case hl => solve | exact hln | rfl); (case hcl => solve | rfl | exact hln | simp); (case hpos => omega); (case hb => omega); (case hb2 => omega); (case hnew => exact rfl)) | exact da)) | ((with_reducible apply zS); exact ds) | ((with_reducible apply zY); exact rfl; exact rfl; exact tf) | ((with_reducible apply zG); exact rfl; exact rfl; exact tf) | ((with_reducible apply zU); exact rfl; exact rfl) | ((with_reducible apply zD); exact rfl; exact rfl) | ((with_reducible apply zB); exact rfl; exact rfl)))
      exact ⟨k + 2, hlt, by omega, (And.intro rfl (And.intro rfl (And.intro rfl (And.intro rfl (And.intro rfl trivial))))), (And.intro (hsn) trivial)⟩
  · obtain rfl : k = L.length := by omega
    obtain ⟨m, hm⟩ : ∃ m, L.length = m + 1 := ⟨L.length - 1, by omega⟩
    refine awp_cut [(9, .lsl 52 0 L.length 2), (37, .d (I L.length)), (38, .d (I L.length))] [(52, ⟨77, rgS (lsR (imgA L B) L.length)⟩)] (And.intro (by rw [hm]; rfl) (And.intro (rfl) (And.intro (rfl) trivial))) (And.intro (by rw [hm]; rfl) trivial) ?_
    (repeat' (first | (with_reducible first | intro hg | refine mv (by constructor) ?_) | ((with_reducible first | refine zR ?_ ?_ | refine zW mixed ?_ ?_); exact kr) | ((with_reducible apply zK); exact rfl; exact tf) | ((with_reducible apply zCD); exact rfl) | ((with_reducible apply zCN); exact rfl) | ((with_reducible apply zC); exact rfl) | ((with_reducible refine zX ?_ ?_); exact rfl) | ((with_reducible refine zE (And.intro ?_ ?_)); exact kr) | (with_reducible refine zE ?_) | ((with_reducible apply zP); exact dp) | ((with_reducible apply zN); exact dn) | ((with_reducible apply zA); exact da) | ((with_reducible apply zS); exact ds) | ((with_reducible apply zY); exact rfl; exact rfl; exact tf) | ((with_reducible apply zG); exact rfl; exact rfl; exact tf) | ((with_reducible apply zU); exact rfl; exact rfl) | ((with_reducible apply zD); exact rfl; exact rfl) | ((with_reducible apply zB); exact rfl; exact rfl)))
    ((with_reducible first | apply q_retO | apply q_retON); exact rfl; exact rfl; exact rfl)

end Go.Proofs.YtfcfmpdpjmbcnaaGreat
