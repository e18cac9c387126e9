/- The run of a loop. -/
import Derived.Test.YtiabcffcbhlbiaaGreatSe
import Derived.Test.YtiabcffcbhlbiaaGreatSc
set_option linter.unusedVariables false
set_option linter.unusedSimpArgs false
namespace Go.Proofs.YtiabcffcbhlbiaaGreat
open Go.RowKit
set_option maxRecDepth 20000
set_option maxHeartbeats 8000000

/-- What RunOf sums up, over D * den. -/
def runN (D den d : Int) (cs : List Int) (st : List Rat) : Nat → Int
  | 0 => d * (D * den)
  | i + 1 => runN D den d cs st i + nth cs i * (st.getD i 0).num * (D / ((st.getD i 0).den : Int))
theorem part_mul {D : Int} {K : Nat} {r : Rat} (hD : 0 < D) (h : Ov D K r) : r * (D : Rat) = ((r.num * (D / (r.den : Int)) : Int) : Rat) ∧ (r.num * (D / (r.den : Int))).natAbs ≤ K ∧ 0 < D / (r.den : Int) ∧ (r.den : Int) * (D / (r.den : Int)) = D := by
  obtain ⟨N, h1, h2⟩ := h
  obtain ⟨g, g0, g1, g2⟩ := ov_parts hD h1
  have hd := den_pos r
  have e : D / (r.den : Int) = g := by rw [g2]; exact Int.mul_ediv_cancel_left g (by omega)
  rw [e, ← g1]
  exact ⟨h1, h2, g0, g2.symm⟩
theorem runN_eq {D den d : Int} {K : Nat} {cs : List Int} {st : List Rat} (hD : 0 < D) (hd : den ≠ 0) (hs : ∀ i, Ov D K (st.getD i 0)) : ∀ i, tkS den cs d st i * ((D * den : Int) : Rat) = ((runN D den d cs st i : Int) : Rat)
  | 0 => by unfold tkS runN; rw [Rat.intCast_mul d]
  | i + 1 => by
    have ih := runN_eq (d := d) (cs := cs) hD hd hs i
    have h1 := (part_mul hD (hs i)).1
    have h2 := divInt_mul_cast (nth cs i) hd
    unfold tkS runN
    rw [Rat.intCast_add, ← ih, Int.mul_assoc, Rat.intCast_mul (nth cs i), ← h1, ← h2, Rat.intCast_mul D]
    grind
theorem runN_term {D : Int} {K : Nat} {cs : List Int} {st : List Rat} (hD : 0 < D) (hs : ∀ i, Ov D K (st.getD i 0)) (hc : ∀ i, (nth cs i).natAbs ≤ 10) (i : Nat) : (nth cs i * (st.getD i 0).num * (D / ((st.getD i 0).den : Int))).natAbs ≤ 10 * K ∧ (nth cs i * (st.getD i 0).num).natAbs ≤ 10 * K := by
  obtain ⟨_, h2, h3, _⟩ := part_mul hD (hs i)
  have h4 : (st.getD i 0).num.natAbs ≤ ((st.getD i 0).num * (D / ((st.getD i 0).den : Int))).natAbs := by
    rw [Int.natAbs_mul]
    exact Nat.le_mul_of_pos_right _ (by omega)
  constructor
  · rw [Int.mul_assoc, Int.natAbs_mul]
    exact Nat.mul_le_mul (hc i) h2
  · rw [Int.natAbs_mul]
    exact Nat.mul_le_mul (hc i) (Nat.le_trans h4 h2)
theorem runN_bnd {D den d : Int} {K : Nat} {cs : List Int} {st : List Rat} (hD : 0 < D) (hs : ∀ i, Ov D K (st.getD i 0)) (hc : ∀ i, (nth cs i).natAbs ≤ 10) : ∀ i, (runN D den d cs st i).natAbs ≤ d.natAbs * (D * den).natAbs + i * (10 * K)
  | 0 => by unfold runN; rw [Int.natAbs_mul]; omega
  | i + 1 => by
    have ih := runN_bnd (d := d) (den := den) hD hs hc i
    have := (runN_term hD hs hc i).1
    unfold runN
    rw [Nat.add_mul]
    omega
theorem bB8 {t : Nat} (h : t ≤ 8) : bB t ≤ 1000000000000000 := Nat.le_trans (bB_mono h) (by decide)
theorem bB9 {t : Nat} (h : t ≤ 9) : bB t ≤ 100000000000000000 := Nat.le_trans (bB_mono h) (by decide)
theorem pow10N {t : Nat} (h : t ≤ 9) : 10 ^ t ≤ 1000000000 := Nat.le_trans (Nat.pow_le_pow_right (by decide) h) (by decide)
theorem pow_rng {den : Int} (h : 1 ≤ den ∧ den ≤ 10) {t : Nat} (ht : t ≤ 9) : 1 ≤ den ^ t ∧ den ^ t ≤ 1000000000 := by
  have h1 := pow_pos h.1 t
  have h2 := Nat.le_trans (pow_le10 h t) (pow10N ht)
  omega
/-- The numbers of the first t ticks, as fractions. -/
def outF (den : Int) (cs : List (List Int)) (dz x : List Int) (t : Nat) : List Fr := (List.range t).map fun k => qF (vlt den cs dz x k)
theorem outF_succ (den : Int) (cs : List (List Int)) (dz x : List Int) (t : Nat) : outF den cs dz x (t + 1) = outF den cs dz x t ++ [qF (vlt den cs dz x t)] := by
  unfold outF; rw [List.range_succ, List.map_append]; rfl
theorem outF_len (den : Int) (cs : List (List Int)) (dz x : List Int) (t : Nat) : (outF den cs dz x t).length = t := by simp [outF]
/-- A state as fractions. -/
def stF (den : Int) (cs : List (List Int)) (dz x : List Int) (t : Nat) : List Fr := ((hst den cs dz x t).take x.length).map qF
theorem stF_len (den : Int) (cs : List (List Int)) (dz x : List Int) (t : Nat) : (stF den cs dz x t).length = x.length := by
  have := hst_len den cs dz x t
  unfold stF
  rw [List.length_map, List.length_take]
  omega
theorem stF_get (den : Int) (cs : List (List Int)) (dz x : List Int) (t : Nat) {i : Nat} (h : i < x.length) : (stF den cs dz x t).getD i (0, 0) = qF ((hst den cs dz x t).getD i 0) := by
  have hl := hst_len den cs dz x t
  unfold stF
  rw [List.getD_eq_getElem?_getD, List.getElem?_map, List.getElem?_take_of_lt h, List.getD_eq_getElem?_getD, List.getElem?_eq_getElem (by omega)]; rfl
theorem stF_next (den : Int) (cs : List (List Int)) (dz x : List Int) (t : Nat) (h : 0 < x.length) : stF den cs dz x (t + 1) = qF (vlt den cs dz x t) :: (stF den cs dz x t).take (x.length - 1) := by
  unfold stF
  obtain ⟨k, hk⟩ : ∃ k, x.length = k + 1 := ⟨x.length - 1, by omega⟩
  rw [hst_succ, hk, List.take_succ_cons, List.map_cons, ← List.map_take, List.take_take, show min (k + 1 - 1) (k + 1) = k by omega]
theorem stF_zero (den : Int) (cs : List (List Int)) (dz x : List Int) : stF den cs dz x 0 = x.map fun n => (n, 1) := by
  unfold stF hst
  rw [List.take_of_length_le (by simp), List.map_map]; rfl
/-- What RunOf answers for what is valid. -/
def rnV (den : Int) (cs : List (List Int)) (dz x : List Int) : List Fr × Int := bif (List.range cs.length).all fun k => smQ (vlt den cs dz x k) then (outF den cs dz x cs.length, 0) else ([], 8)
theorem rnV_no {den : Int} {cs : List (List Int)} {dz x : List Int} {t : Nat} (h : t < cs.length) (hn : smQ (vlt den cs dz x t) = false) : rnV den cs dz x = ([], 8) := by
  unfold rnV
  have : ((List.range cs.length).all fun k => smQ (vlt den cs dz x k)) = false := by
    rw [← Bool.not_eq_true, List.all_eq_true]
    intro h2
    have := h2 t (List.mem_range.2 h)
    rw [hn] at this; cases this
  rw [this]; rfl
theorem rnV_yes {den : Int} {cs : List (List Int)} {dz x : List Int} (h : ∀ t, t < cs.length → smQ (vlt den cs dz x t) = true) : rnV den cs dz x = (outF den cs dz x cs.length, 0) := by
  unfold rnV
  have : ((List.range cs.length).all fun k => smQ (vlt den cs dz x k)) = true := List.all_eq_true.2 fun t ht => h t (List.mem_range.1 ht)
  rw [this]; rfl

theorem rgS_take (l : List Rg) (k : Nat) : (rgS l).take (k * 2) = rgS (l.take k) := by
  induction l generalizing k with
  | nil => simp [rgS]
  | cons a l ih =>
    rcases k with _ | k
    · simp
    · show (frC a ++ rgS l).take ((k + 1) * 2) = frC a ++ rgS (l.take k)
      rw [← ih k, show (k + 1) * 2 = (frC a).length + k * 2 by show _ = 2 + k * 2; omega, List.take_length_add_append]
theorem rno1_A (n : Int) : AC Tryz.prog 68 ([I n] ++ []) (B (!inR n (-100) 100)) := by
  refine ac_body Tryz.func68 rfl (by kernel_rfl) fun w0 ok => ?_; show AWp _ (ctx0 w0 ok _) _ (ARet _ _ _) (entry _)
  (repeat' (first | (with_reducible first | intro hg | refine mv (by constructor) ?_) | ((with_reducible first | refine zR ?_ ?_ | refine zW mixed ?_ ?_); exact kr) | ((with_reducible apply zK); exact rfl; exact tf) | ((with_reducible apply zCD); exact rfl) | ((with_reducible apply zCN); exact rfl) | ((with_reducible apply zC); exact rfl) | ((with_reducible refine zX ?_ ?_); exact rfl) | ((with_reducible refine zE (And.intro ?_ ?_)); exact kr) | (with_reducible refine zE ?_) | ((with_reducible apply zP); (first | exact dp | exact oc rfl (isSized_A _ _ ⟨by decide, by decide⟩))) | ((with_reducible apply zN); exact dn) | ((with_reducible apply zA); exact da) | ((with_reducible apply zS); exact ds) | ((with_reducible apply zY); exact rfl; exact rfl; exact tf) | ((with_reducible apply zG); exact rfl; exact rfl; exact tf) | ((with_reducible apply zU); exact rfl; exact rfl) | ((with_reducible apply zD); exact rfl; exact rfl) | ((with_reducible apply zB); exact rfl; exact rfl)))
  ((with_reducible first | apply q_retR | apply q_retN); exact rl)
  rfl
theorem odd_A (x : List Int) (hx : x.length ≤ 140737488355328) : AC Tryz.prog 67 [isl x, fnV 68] (B (x.any fun n => !inR n (-100) 100)) :=
  containsFunc_A 68 (EntI.eq (P := Tryz.prog) (f := 68)) .val (fun n => !inR n (-100) 100) x hx (fun x _ => rno1_A x)
/-- A nil slice in a tuple is an empty one. -/
theorem AC.nil0 {P : Program} {f : FuncId} {args : List DV} {y : DV} (h : AC P f args (.tuple [nilV, y])) : AC P f args (.tuple [.slice 0 [], y]) := fun ok w vs hr => (h ok w vs hr).mono fun e w' ⟨v, he, hv, hb⟩ => by
  refine ⟨v, he, ?_, hb⟩
  rw [DV.rep] at hv ⊢
  obtain ⟨us, e1, h1⟩ := hv
  obtain ⟨u, us', rfl, h2, h3⟩ := repL_cons.1 h1
  exact ⟨_, e1, repL_cons.2 ⟨u, us', rfl, rep_nilS h2, h3⟩⟩
abbrev frV (l : List Fr) : DV := .slice l.length (rgS l)
abbrev runC (x : List Int) (cs : List (List Int)) (dz : List Int) : List DV := [isl x, llV cs, isl dz]
def rnE (c : List Rg) (den : Int) (x : List Int) (cs : List (List Int)) (dz : List Int) : Int := fst0 [srE c den x cs, unl (decide ((dz.length : Int) = (cs.length : Int))) 10, unl (!dz.any fun n => !inR n (-100) 100) 2]
/-- What is valid for a run. -/
structure RnOk (c : List Rg) (den : Int) (x : List Int) (cs : List (List Int)) (dz : List Int) : Prop where
  lo : LoopOk c den
  xl : x.length = c.length
  xb : ∀ i, (nth x i).natAbs ≤ 100
  cl : cs.length ≤ 8
  cf : CfOk x.length cs
  dl : dz.length = cs.length
  db : ∀ t, (nth dz t).natAbs ≤ 100
theorem any_sized {x : List Int} (h : (!x.any fun n => !inR n (-100) 100) = true) (i : Nat) : (nth x i).natAbs ≤ 100 := by
  by_cases hi : i < x.length
  · have := all_of_any h _ (nth_mem hi)
    have := inR_true.1 this
    omega
  · have : nth x i = 0 := by unfold nth; rw [List.getD_eq_getElem?_getD, List.getElem?_eq_none (by omega)]; rfl
    omega
theorem nth_out {l : List Int} {i : Nat} (h : ¬ i < l.length) : nth l i = 0 := by unfold nth; rw [List.getD_eq_getElem?_getD, List.getElem?_eq_none (by omega)]; rfl
theorem srE_ok {c : List Rg} {den : Int} {x : List Int} {cs : List (List Int)} (h : srE c den x cs = 0) : loE c den = 0 ∧ x.length = c.length ∧ (∀ i, (nth x i).natAbs ≤ 100) ∧ cs.length ≤ 8 ∧ cfE c cs = 0 := by
  unfold srE at h
  by_cases h0 : srH c den x cs = 0
  · rw [h0] at h
    obtain ⟨k1, h2⟩ := fst0_cons h0
    obtain ⟨k2, h3⟩ := fst0_cons h2
    obtain ⟨k3, h4⟩ := fst0_cons h3
    rw [fst0_one] at h4
    have k2 := of_decide_eq_true (unl_ok (by decide) k2)
    have k4 := of_decide_eq_true (unl_ok (by decide) h4)
    exact ⟨k1, by omega, any_sized (unl_ok (by decide) k3), by omega, h⟩
  · rw [beq0f h0] at h; exact absurd h h0
theorem cf_ok {c : List Rg} {den : Int} (hl : LoopOk c den) {cs : List (List Int)} (h : cfE c cs = 0) : CfOk c.length cs := by
  refine ⟨fun t ht => (cfE1_ok (cfE_ok h t ht)).1, fun t i => ?_⟩
  by_cases ht : t < cs.length
  · obtain ⟨h1, h2⟩ := cfE1_ok (cfE_ok h t ht)
    by_cases hi : i < c.length
    · have h3 := h2 i hi
      have h4 := hl.b _ (rg_mem hi)
      omega
    · rw [nth_out (by omega)]; decide
  · rw [getD_out [] (by omega), nth_out (by simp)]; decide
theorem rnE_ok {c : List Rg} {den : Int} {x : List Int} {cs : List (List Int)} {dz : List Int} (h : rnE c den x cs dz = 0) : RnOk c den x cs dz := by
  obtain ⟨k1, h2⟩ := fst0_cons h
  obtain ⟨k2, h3⟩ := fst0_cons h2
  rw [fst0_one] at h3
  obtain ⟨j1, j2, j3, j4, j5⟩ := srE_ok k1
  have k2 := of_decide_eq_true (unl_ok (by decide) k2)
  have hl := loE_ok j1
  exact ⟨hl, j2, j3, j4, by rw [j2]; exact cf_ok hl j5, by omega, any_sized (unl_ok (by decide) h3)⟩
theorem runOf_ok (c : List Rg) (den : Int) (x : List Int) (cs : List (List Int)) (dz : List Int) (h : rnE c den x cs dz = 0) :
    AC Tryz.prog 15 [loV c den, .agg (runC x cs dz)] (.tuple [frV (rnV den cs dz x).1, I (rnV den cs dz x).2]) := by
  have hV := rnE_ok h
  have hhx := hst_ov (dz := dz) hV.lo.d hV.xb hV.db (by have := hV.lo.l3; have := hV.xl; omega) hV.cf
  have hvx := fun t ht => vlt_ov (dz := dz) hV.lo.d hV.xb hV.db (by have := hV.lo.l3; have := hV.xl; omega) hV.cf (t := t) ht
  obtain ⟨hlo, hxl, hx, hcl, hcf, hdl, hd⟩ := hV
  obtain ⟨l1, l3, _, hden⟩ := hlo
  have hlr : ∀ r ∈ cs, r.length ≤ 140737488355328 := fun r hr => by
    obtain ⟨t, ht, rfl⟩ := List.getElem_of_mem hr
    have := hcf.l t ht
    rw [List.getD_eq_getElem?_getD, List.getElem?_eq_getElem ht] at this
    have this : cs[t].length = x.length := this
    omega
  have w1 := startErr_A c den x cs (by omega) (by omega) (by omega) hlr
  have w2 := odd_A dz (by omega)
  have hf := first3_A (srE c den x cs) (unl (decide ((dz.length : Int) = (cs.length : Int))) 10) (unl (!dz.any fun n => !inR n (-100) 100) 2)
  have e0 : rnE c den x cs dz = fst0 [srE c den x cs, unl (decide ((dz.length : Int) = (cs.length : Int))) 10, unl (!dz.any fun n => !inR n (-100) 100) 2] := rfl
  rw [← e0, h] at hf
  clear e0 h
  obtain ⟨R, hR⟩ : ∃ R, R = rnV den cs dz x := ⟨_, rfl⟩
  rw [← hR]
  refine ac_body Tryz.func15 rfl (by kernel_rfl) fun w0 ok => ?_; show AWp _ (ctx0 w0 ok _) _ (ARet _ _ _) (entry _)
  (repeat' (first | (with_reducible first | intro hg | refine mv (by constructor) ?_) | ((with_reducible first | refine zR ?_ ?_ | refine zW mixed ?_ ?_); exact kr) | ((with_reducible apply zK); exact rfl; exact tf) | ((with_reducible apply zCD); exact rfl) | ((with_reducible apply zCN); exact rfl) | ((with_reducible apply zC); exact rfl) | ((with_reducible refine zX ?_ ?_); exact rfl) | ((with_reducible refine zE (And.intro ?_ ?_)); exact kr) | (with_reducible refine zE ?_) | ((with_reducible apply zP); (first | exact dp | exact oc rfl (w1) | exact oc rfl (w2) | exact oc rfl (unless_A _ _) | exact oc rfl (hf))) | ((with_reducible apply zN); exact dn) | ((with_reducible apply zA); exact da) | ((with_reducible apply zS); exact ds) | ((with_reducible apply zY); exact rfl; exact rfl; exact tf) | ((with_reducible apply zG); exact rfl; exact rfl; exact tf) | ((with_reducible apply zU); exact rfl; exact rfl) | ((with_reducible apply zD); exact rfl; exact rfl) | ((with_reducible apply zB); exact rfl; exact rfl)))
  clear w1 w2 hf
  refine awp_loopL (α := Nat) (fun k => [(2, .ptr 2 0), (3, .ptr 3 0), (8, ownZ 56 2 k), (9, .d nilV), (46, .d (isl x)), (47, .d (I x.length)), (48, .d (I k))]) (fun k => (2, ⟨24, [rgV c, I den]⟩) :: (3, ⟨28, runC x cs dz⟩) :: ownM 56 56 (rgS ((x.take k).map fun n => (n, 1))) k) (fun k => k ≤ x.length) (fun k => x.length - k) 0 (Nat.zero_le _) (And.intro rfl (And.intro rfl (And.intro rfl (And.intro rfl (And.intro rfl (And.intro rfl (And.intro rfl trivial))))))) (And.intro rfl (And.intro rfl trivial)) fun k hk => ?_
  by_cases hlt : k < x.length
  · have hsn : rgS ((x.take k).map fun n => (n, 1)) ++ [I (nth x k), I 1] = rgS ((x.take (k + 1)).map fun n => (n, 1)) := by rw [take_getD hlt, List.map_append]; exact rgS_snoc _ (nth x k, 1)
    have hln := rgS_len ((x.take k).map fun n => (n, 1))
    rw [List.length_map, List.length_take, Nat.min_eq_left hk] at hln
    rcases k with _ | k
    · (repeat' (first | (with_reducible first | intro hg | refine mv (by constructor) ?_) | ((with_reducible first | refine zR ?_ ?_ | refine zW mixed ?_ ?_); exact kr) | ((with_reducible apply zK); exact rfl; exact tf) | ((with_reducible apply zCD); exact rfl) | ((with_reducible apply zCN); exact rfl) | ((with_reducible apply zC); exact rfl) | ((with_reducible refine zX ?_ ?_); exact rfl) | ((with_reducible refine zE (And.intro ?_ ?_)); exact kr) | (with_reducible refine zE ?_) | ((with_reducible apply zP); exact dp) | ((with_reducible apply zN); exact dn) | ((with_reducible apply zA); exact da) | ((with_reducible apply zS); exact ds) | ((with_reducible apply zY); exact rfl; exact rfl; exact tf) | ((with_reducible apply zG); exact rfl; exact rfl; exact tf) | ((with_reducible apply zU); exact rfl; exact rfl) | ((with_reducible apply zD); exact rfl; exact rfl) | ((with_reducible apply zB); exact rfl; exact rfl)))
      exact ⟨1, hlt, by omega, (And.intro rfl (And.intro rfl (And.intro rfl (And.intro rfl (And.intro rfl (And.intro rfl (And.intro rfl trivial))))))), (And.intro rfl (And.intro rfl (And.intro (congrArg (fun l => some (Blk.mk _ l)) hsn) trivial)))⟩
    · (repeat' (first | (with_reducible first | intro hg | refine mv (by constructor) ?_) | ((with_reducible first | refine zR ?_ ?_ | refine zW mixed ?_ ?_); exact kr) | ((with_reducible apply zK); exact rfl; exact tf) | ((with_reducible apply zCD); exact rfl) | ((with_reducible apply zCN); exact rfl) | ((with_reducible apply zC); exact rfl) | ((with_reducible refine zX ?_ ?_); exact rfl) | ((with_reducible refine zE (And.intro ?_ ?_)); exact kr) | (with_reducible refine zE ?_) | ((with_reducible apply zP); exact dp) | ((with_reducible apply zN); exact dn) | ((with_reducible apply zA); (first | ((apply o_app); (case hx => exact rfl); (case hm => exact rfl); (case hy => exact .own rfl rfl); (case hty => exact rfl); (case hl => solve | exact hln | rfl); (case hcl => solve | rfl | exact hln | simp); (case hpos => omega); (case hb => omega); (case hb2 => omega); (case hnew => exact rfl)) | ((apply o_app); (case hx => exact rfl); (case hm => exact rfl); (case hy => exact .sl rfl); (case hty => exact rfl); (case hl => solve | exact hln | rfl); (case hcl => solve | rfl | exact hln | simp); (case hpos => omega); (case hb => omega); (case hb2 => omega); (case hnew => exact rfl)) | exact da)) | ((with_reducible apply zS); exact ds) | ((with_reducible apply zY); exact rfl; exact rfl; exact tf) | ((with_reducible apply zG); exact rfl; exact rfl; exact tf) | ((with_reducible apply zU); exact rfl; exact rfl) | ((with_reducible apply zD); exact rfl; exact rfl) | ((with_reducible apply zB); exact rfl; exact rfl)))
      exact ⟨k + 2, hlt, by omega, (And.intro rfl (And.intro rfl (And.intro rfl (And.intro rfl (And.intro rfl (And.intro rfl (And.intro rfl trivial))))))), (And.intro rfl (And.intro rfl (And.intro (congrArg (fun l => some (Blk.mk _ l)) hsn) trivial)))⟩
  obtain rfl : k = x.length := by omega
  have hs0 := stF_zero den cs dz x
  have hl0 := rgS_len (stF den cs dz x 0)
  have hl1 := stF_len den cs dz x 0
  rw [List.take_length, ← hs0]
  refine awp_ownZ 8 56 2 (t := 56) (rgS (stF den cs dz x 0)) (by omega) rfl (fun k hk => by rw [hk]; rfl) ?_
  (repeat' (first | (with_reducible first | intro hg | refine mv (by constructor) ?_) | ((with_reducible first | refine zR ?_ ?_ | refine zW mixed ?_ ?_); exact kr) | ((with_reducible apply zK); exact rfl; exact tf) | ((with_reducible apply zCD); exact rfl) | ((with_reducible apply zCN); exact rfl) | ((with_reducible apply zC); exact rfl) | ((with_reducible refine zX ?_ ?_); exact rfl) | ((with_reducible refine zE (And.intro ?_ ?_)); exact kr) | (with_reducible refine zE ?_) | ((with_reducible apply zP); exact dp) | ((with_reducible apply zN); exact dn) | ((with_reducible apply zA); exact da) | ((with_reducible apply zS); exact ds) | ((with_reducible apply zY); exact rfl; exact rfl; exact tf) | ((with_reducible apply zG); exact rfl; exact rfl; exact tf) | ((with_reducible apply zU); exact rfl; exact rfl) | ((with_reducible apply zD); exact rfl; exact rfl) | ((with_reducible apply zB); exact rfl; exact rfl)))
  refine awp_loopL (α := Nat) (fun t => [(2, .ptr 2 0), (3, .ptr 3 0), (8, .d (.slice x.length (rgS (stF den cs dz x t)))), (9, ownZ 117 2 t), (12, .d (I (den ^ t))), (59, .d (llV cs)), (60, .d (I cs.length)), (61, .d (I t))]) (fun t => (2, ⟨24, [rgV c, I den]⟩) :: (3, ⟨28, runC x cs dz⟩) :: ownM 117 56 (rgS (outF den cs dz x t)) t) (fun t => t ≤ cs.length ∧ ∀ k, k < t → smQ (vlt den cs dz x k) = true) (fun t => cs.length - t) 0 ⟨Nat.zero_le _, fun k hk => absurd hk (by omega)⟩ (And.intro rfl (And.intro rfl (And.intro rfl (And.intro rfl (And.intro (congrArg (fun n : Int => AV.d (I n)) (Int.pow_zero den).symm) (And.intro (rfl) (And.intro (rfl) (And.intro (rfl) trivial)))))))) (And.intro rfl (And.intro rfl trivial)) fun t ⟨ht, hall⟩ => ?_
  by_cases htl : t < cs.length
  rotate_left
  · obtain rfl : t = cs.length := by omega
    have hl2 := rgS_len (outF den cs dz x cs.length)
    rw [outF_len] at hl2
    have hRy : R = (outF den cs dz x cs.length, 0) := by rw [hR]; exact rnV_yes hall
    have hol := outF_len den cs dz x cs.length
    rw [hRy]
    refine awp_ownZ 9 117 2 (t := 56) (rgS (outF den cs dz x cs.length)) (by omega) rfl (fun k hk => by rw [hk]; rfl) ?_
    (repeat' (first | (with_reducible first | intro hg | refine mv (by constructor) ?_) | ((with_reducible first | refine zR ?_ ?_ | refine zW mixed ?_ ?_); exact kr) | ((with_reducible apply zK); exact rfl; exact tf) | ((with_reducible apply zCD); exact rfl) | ((with_reducible apply zCN); exact rfl) | ((with_reducible apply zC); exact rfl) | ((with_reducible refine zX ?_ ?_); exact rfl) | ((with_reducible refine zE (And.intro ?_ ?_)); exact kr) | (with_reducible refine zE ?_) | ((with_reducible apply zP); exact dp) | ((with_reducible apply zN); exact dn) | ((with_reducible apply zA); exact da) | ((with_reducible apply zS); exact ds) | ((with_reducible apply zY); exact rfl; exact rfl; exact tf) | ((with_reducible apply zG); exact rfl; exact rfl; exact tf) | ((with_reducible apply zU); exact rfl; exact rfl) | ((with_reducible apply zD); exact rfl; exact rfl) | ((with_reducible apply zB); exact rfl; exact rfl)))
    ((with_reducible first | apply q_retR | apply q_retN); exact rl)
    show DV.tuple [.slice (outF den cs dz x cs.length).length _, I 0] = DV.tuple [.slice cs.length _, I 0]
    rw [hol]
  have hrl := hcf.l t htl
  obtain ⟨r, hr⟩ : ∃ r, r = cs.getD t [] := ⟨_, rfl⟩
  have hcb := fun i => hcf.b t i
  rw [← hr] at hrl hcb
  have hov := hhx t (by omega)
  have hvt : vlt den cs dz x t = tkS den r (nth dz t) (hst den cs dz x t) r.length := by rw [hr]; rfl
  have hDp := pow_rng hden (t := t) (by omega)
  have hDp2 := pow_rng hden (t := t + 1) (by omega)
  have hps : den ^ (t + 1) = den ^ t * den := Int.pow_succ _ _
  have hD0 : 0 < den ^ t := by omega
  have hB := bB8 (t := t) (by omega)
  obtain ⟨K, hK⟩ : ∃ K, K = bB t := ⟨_, rfl⟩
  obtain ⟨D, hDD⟩ : ∃ D, D = den ^ t := ⟨_, rfl⟩
  rw [← hK] at hov hB
  rw [← hDD] at hps hDp hD0 hov
  rw [hps] at hDp2
  have hdt := hd t
  have hm1 : (nth dz t).natAbs * (D * den).natAbs ≤ 100 * 1000000000 := Nat.mul_le_mul hdt (by omega)
  have hm1' : (nth dz t * (D * den)).natAbs ≤ 100 * 1000000000 := by rw [Int.natAbs_mul]; exact hm1
  have hq1 : IntKind.i64.wrap ((D * den).tdiv den) = D := by rw [Int.mul_tdiv_cancel _ (by omega)]; exact wr (by omega)
  have hrl8 : (cs.getD t []).length = x.length := by rw [← hr]; exact hrl
  have hrn : ∀ i, nth (cs.getD t []) i = nth r i := fun i => by rw [hr]
  have hsl := stF_len den cs dz x t
  have hsg := fun i hi => stF_get den cs dz x t (i := i) hi
  have hbnd := runN_bnd (den := den) (d := nth dz t) hD0 hov hcb
  have htrm := runN_term hD0 hov hcb
  have hprt := fun i => part_mul hD0 (hov i)
  have hrun := runN_eq (d := nth dz t) (cs := r) hD0 (show den ≠ 0 by omega) hov
  have hnext := stF_next den cs dz x t (by omega)
  have hslr := rgS_len (stF den cs dz x t)
  have hstm := fun k => rgS_len ((stF den cs dz x t).take k)
  have hols := outF_succ den cs dz x t
  have holn := rgS_len (outF den cs dz x t)
  rw [outF_len] at holn
  rw [← hDD]
  clear hhx hvx hov hcb hcf hlr hd hx hdt
  obtain ⟨m, hm⟩ : ∃ m, x.length = m + 1 := ⟨x.length - 1, by omega⟩
  rcases t with _ | t
  · (repeat' (first | (with_reducible first | intro hg | refine mv (by constructor) ?_) | ((with_reducible first | refine zR ?_ ?_ | refine zW mixed ?_ ?_); exact kr) | ((with_reducible apply zK); exact rfl; exact tf) | ((with_reducible apply zCD); exact rfl) | ((with_reducible apply zCN); exact rfl) | ((with_reducible apply zC); exact rfl) | ((with_reducible refine zX ?_ ?_); exact rfl) | ((with_reducible refine zE (And.intro ?_ ?_)); exact kr) | (with_reducible refine zE ?_) | ((with_reducible apply zP); (first | exact o_indexF [] (j := 0) llC_len (by decide) rfl rfl (by omega) rfl | exact o_indexI (xs := dz) (j := 0) rfl rfl (by omega) rfl | exact dp)) | ((with_reducible apply zN); exact dn) | ((with_reducible apply zA); exact da) | ((with_reducible apply zS); exact ds) | ((with_reducible apply zY); exact rfl; exact rfl; exact tf) | ((with_reducible apply zG); exact rfl; exact rfl; exact tf) | ((with_reducible apply zU); exact rfl; exact rfl) | ((with_reducible apply zD); exact rfl; exact rfl) | ((with_reducible apply zB); exact rfl; exact rfl)))
    refine awp_loopL (α := Nat) (fun i => [(2, .ptr 2 0), (3, .ptr 3 0), (8, .d (.slice x.length (rgS (stF den cs dz x (0))))), (9, ownZ 117 2 (0)), (12, .d (I (D * den))), (15, .d (I (runN D den (nth dz (0)) r (hst den cs dz x (0)) i))), (59, .d (llV cs)), (60, .d (I cs.length)), (61, .d (I (0 : Nat))), (77, .d (isl (cs.getD (0) []))), (78, .d (I x.length)), (79, .d (I i))]) (fun _ => (2, ⟨24, [rgV c, I den]⟩) :: (3, ⟨28, runC x cs dz⟩) :: ownM 117 56 (rgS (outF den cs dz x (0))) (0)) (fun i => i ≤ x.length) (fun i => x.length - i) 0 (Nat.zero_le _) (And.intro rfl (And.intro rfl (And.intro rfl (And.intro rfl (And.intro rfl (And.intro rfl (And.intro rfl (And.intro rfl (And.intro rfl (And.intro rfl (And.intro (congrArg (fun n : Nat => AV.d (I n)) hrl8) (And.intro (rfl) trivial)))))))))))) (And.intro rfl (And.intro rfl trivial)) fun i hi => ?_
    by_cases hil : i < x.length
    · have hx1 := hbnd i
      have hx2 := hbnd (i + 1)
      have hi1 : i * (10 * K) ≤ 3 * (10 * K) := Nat.mul_le_mul_right _ (by omega)
      have hi2 : (i + 1) * (10 * K) ≤ 3 * (10 * K) := Nat.mul_le_mul_right _ (by omega)
      obtain ⟨hx3, hx4⟩ := htrm i
      obtain ⟨_, _, hg0, hg1⟩ := hprt i
      have hg := hsg i hil
      have hsu : runN D den (nth dz (0)) r (hst den cs dz x (0)) (i + 1) = runN D den (nth dz (0)) r (hst den cs dz x (0)) i + nth r i * ((hst den cs dz x (0)).getD i 0).num * (D / (((hst den cs dz x (0)).getD i 0).den : Int)) := rfl
      have hdp := den_pos ((hst den cs dz x (0)).getD i 0)
      rw [← hrn] at hsu hx3 hx4
      have hnum : ((stF den cs dz x (0)).getD i rg0).1 = ((hst den cs dz x (0)).getD i 0).num := congrArg Prod.fst hg
      have hdn : ((stF den cs dz x (0)).getD i rg0).2 = (((hst den cs dz x (0)).getD i 0).den : Int) := congrArg Prod.snd hg
      rw [← hnum, ← hdn] at hsu hx3
      rw [← hnum] at hx4
      rw [← hdn] at hg0 hg1 hdp
      clear hbnd htrm hprt hrun hsg hg hnum hdn hnext hstm hols
      generalize runN D den (nth dz (0)) r (hst den cs dz x (0)) i = S0 at *
      obtain ⟨q, hq⟩ : ∃ q, q = D / ((stF den cs dz x (0)).getD i rg0).2 := ⟨_, rfl⟩
      rw [← hq] at hsu hx3 hg0 hg1
      have hq2 : IntKind.i64.wrap (D.tdiv ((stF den cs dz x (0)).getD i rg0).2) = q := by
        rw [hq, Int.tdiv_eq_ediv_of_nonneg (by omega)]
        refine wr ?_
        have := Int.ediv_le_self ((stF den cs dz x (0)).getD i rg0).2 (show 0 ≤ D by omega)
        omega
      have hS0 : -1000000000000000000 ≤ S0 ∧ S0 ≤ 1000000000000000000 := by omega
      have hS1 : -1000000000000000000 ≤ runN D den (nth dz (0)) r (hst den cs dz x (0)) (i + 1) ∧ runN D den (nth dz (0)) r (hst den cs dz x (0)) (i + 1) ≤ 1000000000000000000 := by omega
      have hT1 : -1000000000000000000 ≤ nth (cs.getD (0) []) i * ((stF den cs dz x (0)).getD i rg0).1 * q ∧ nth (cs.getD (0) []) i * ((stF den cs dz x (0)).getD i rg0).1 * q ≤ 1000000000000000000 := by omega
      have hT2 : -1000000000000000000 ≤ nth (cs.getD (0) []) i * ((stF den cs dz x (0)).getD i rg0).1 ∧ nth (cs.getD (0) []) i * ((stF den cs dz x (0)).getD i rg0).1 ≤ 1000000000000000000 := by omega
      clear hx1 hx2 hi1 hi2 hx3 hx4 hq hg0 hg1 hm1 hm1'
      (repeat' (first | (with_reducible first | intro hg | refine mv (by constructor) ?_) | ((with_reducible first | refine zR ?_ ?_ | refine zW mixed ?_ ?_); exact kr) | ((with_reducible apply zK); exact rfl; exact tf) | ((with_reducible apply zCD); exact rfl) | ((with_reducible apply zCN); exact rfl) | ((with_reducible apply zC); exact rfl) | ((with_reducible refine zX ?_ ?_); exact rfl) | ((with_reducible refine zE (And.intro ?_ ?_)); exact kr) | (with_reducible refine zE ?_) | ((with_reducible apply zP); (first | exact o_indexI (xs := cs.getD (0) []) (j := i) rfl rfl (by omega) rfl | exact o_indexF rg0 (xs := stF den cs dz x (0)) frC_len (by decide) rfl rfl (by omega) (by exact hsl.symm) | exact o_quo (r := D) rfl rfl (by omega) (by exact hq1) | exact o_quo (r := q) rfl rfl (by omega) (by exact hq2) | exact dp)) | ((with_reducible apply zN); exact dn) | ((with_reducible apply zA); exact da) | ((with_reducible apply zS); exact ds) | ((with_reducible apply zY); exact rfl; exact rfl; exact tf) | ((with_reducible apply zG); exact rfl; exact rfl; exact tf) | ((with_reducible apply zU); exact rfl; exact rfl) | ((with_reducible apply zD); exact rfl; exact rfl) | ((with_reducible apply zB); exact rfl; exact rfl)))
      exact ⟨i + 1, hil, by omega, (And.intro rfl (And.intro rfl (And.intro rfl (And.intro rfl (And.intro rfl (And.intro (congrArg (fun n : Int => AV.d (I n)) hsu.symm) (And.intro (rfl) (And.intro (rfl) (And.intro (rfl) (And.intro (rfl) (And.intro (rfl) (And.intro (rfl) trivial)))))))))))), (And.intro rfl (And.intro rfl trivial))⟩
    obtain rfl : i = x.length := by omega
    have hx1 := hbnd x.length
    have hi1 : x.length * (10 * K) ≤ 3 * (10 * K) := Nat.mul_le_mul_right _ (by omega)
    have hru := hrun x.length
    rw [← hrl, ← hvt, hrl] at hru
    have hre := ov_eq (show D * den ≠ 0 by omega) hru
    have wfr := fraction_A (runN D den (nth dz (0)) r (hst den cs dz x (0)) x.length) (D * den) ⟨by omega, by omega⟩ (by omega) (by omega)
    rw [frcR_eq (show 0 < D * den by omega), ← hre] at wfr
    generalize runN D den (nth dz (0)) r (hst den cs dz x (0)) x.length = S0 at *
    clear hbnd htrm hprt hrun hsg hx1 hi1 hru hre
    cases hsm : smQ (vlt den cs dz x (0))
    · have hq : frQ (vlt den cs dz x (0)) = ((0, 0), 8) := by unfold frQ; rw [hsm]; rfl
      have hRn : R = ([], 8) := by rw [hR]; exact rnV_no htl hsm
      rw [hq] at wfr
      rw [hRn]
      (repeat' ((fail_if_success (with_reducible show AWp _ _ .ret _ _)); (first | (with_reducible first | intro hg | refine mv (by constructor) ?_) | ((with_reducible first | refine zR ?_ ?_ | refine zW mixed ?_ ?_); exact kr) | ((with_reducible apply zK); exact rfl; exact tf) | ((with_reducible apply zCD); exact rfl) | ((with_reducible apply zCN); exact rfl) | ((with_reducible apply zC); exact rfl) | ((with_reducible refine zX ?_ ?_); exact rfl) | ((with_reducible refine zE (And.intro ?_ ?_)); exact kr) | (with_reducible refine zE ?_) | ((with_reducible apply zP); (first | exact dp | exact oc rfl (wfr))) | ((with_reducible apply zN); exact dn) | ((with_reducible apply zA); exact da) | ((with_reducible apply zS); exact ds) | ((with_reducible apply zY); exact rfl; exact rfl; exact tf) | ((with_reducible apply zG); exact rfl; exact rfl; exact tf) | ((with_reducible apply zU); exact rfl; exact rfl) | ((with_reducible apply zD); exact rfl; exact rfl) | ((with_reducible apply zB); exact rfl; exact rfl))))
      refine awp_nil 4 rfl ?_
      exact zF
    · have hq : frQ (vlt den cs dz x (0)) = (qF (vlt den cs dz x (0)), 0) := by unfold frQ; rw [hsm]; rfl
      rw [hq] at wfr
      (repeat' ((fail_if_success (with_reducible show AWp _ _ (.region 25 _ _) _ _)); (first | (with_reducible first | intro hg | refine mv (by constructor) ?_) | ((with_reducible first | refine zR ?_ ?_ | refine zW mixed ?_ ?_); exact kr) | ((with_reducible apply zK); exact rfl; exact tf) | ((with_reducible apply zCD); exact rfl) | ((with_reducible apply zCN); exact rfl) | ((with_reducible apply zC); exact rfl) | ((with_reducible refine zX ?_ ?_); exact rfl) | ((with_reducible refine zE (And.intro ?_ ?_)); exact kr) | (with_reducible refine zE ?_) | ((with_reducible apply zP); (first | exact dp | exact oc rfl (wfr))) | ((with_reducible apply zN); exact dn) | ((with_reducible apply zA); exact da) | ((with_reducible apply zS); exact ds) | ((with_reducible apply zY); exact rfl; exact rfl; exact tf) | ((with_reducible apply zG); exact rfl; exact rfl; exact tf) | ((with_reducible apply zU); exact rfl; exact rfl) | ((with_reducible apply zD); exact rfl; exact rfl) | ((with_reducible apply zB); exact rfl; exact rfl))))
      refine awp_cut [(2, .ptr 2 0), (3, .ptr 3 0), (8, .d (.slice (m + 1) (rgS (stF den cs dz x (0))))), (9, ownZ 117 2 (0)), (12, .d (I (D * den))), (18, .ptr 18 0), (59, .d (llV cs)), (60, .d (I cs.length)), (61, .d (I (0 : Nat)))] ((2, ⟨24, [rgV c, I den]⟩) :: (3, ⟨28, runC x cs dz⟩) :: (18, ⟨56, frC (qF (vlt den cs dz x (0)))⟩) :: ownM 117 56 (rgS (outF den cs dz x (0))) (0)) (And.intro rfl (And.intro rfl (And.intro (congrArg (fun n : Nat => AV.d (.slice n (rgS (stF den cs dz x (0))))) hm) (And.intro (rfl) (And.intro (rfl) (And.intro (rfl) (And.intro (rfl) (And.intro (rfl) (And.intro (rfl) trivial))))))))) (And.intro rfl (And.intro rfl (And.intro rfl trivial))) ?_
      have hos : rgS (outF den cs dz x (0)) ++ frC (qF (vlt den cs dz x (0))) = rgS (outF den cs dz x (0 + 1)) := by rw [hols]; exact rgS_snoc _ _
      have hT1 : D * den = den ^ (0 + 1) := hps.symm
      have hallS : ∀ k, k < 0 + 1 → smQ (vlt den cs dz x k) = true := fun k hk => by
        rcases Nat.lt_succ_iff_lt_or_eq.1 hk with h | h
        · exact hall k h
        · rw [h]; exact hsm
      have hcells : frC (qF (vlt den cs dz x (0))) ++ (rgS (stF den cs dz x (0))).take (m * 2) = rgS (stF den cs dz x (0 + 1)) := by
        rw [hnext, hm, rgS_take]; rfl
      have hsl2 := stF_len den cs dz x (0 + 1)
      have hsr2 := rgS_len (stF den cs dz x (0 + 1))
      have hfz : ∀ l : List DV, l = rgS (stF den cs dz x (0 + 1)) → AV.d (.slice (m + 1) ((l.drop 0).take ((m + 1) * 2))) = .d (.slice x.length (rgS (stF den cs dz x (0 + 1)))) := fun l hl => by
        subst hl
        rw [List.drop_zero, List.take_of_length_le (by omega), hm]
      have htk : ((rgS (stF den cs dz x (0))).take (m * 2)).length = m * 2 := by rw [List.length_take]; omega
      generalize vlt den cs dz x (0) = v at *
      generalize rgS (stF den cs dz x (0)) = S8 at *
      clear hnext hstm hols hq hsl hsl2
      rcases m with _ | m
      · have hcells : frC (qF v) = rgS (stF den cs dz x (0 + 1)) := by rw [← hcells, Nat.zero_mul, List.take_zero, List.append_nil]
        (repeat' ((fail_if_success (with_reducible show AWp _ _ (.region 27 _ _) _ _)); (first | (with_reducible first | intro hg | refine mv (by constructor) ?_) | ((with_reducible first | refine zR ?_ ?_ | refine zW mixed ?_ ?_); exact kr) | ((with_reducible apply zK); exact rfl; exact tf) | ((with_reducible apply zCD); exact rfl) | ((with_reducible apply zCN); exact rfl) | ((with_reducible apply zC); exact rfl) | ((with_reducible refine zX ?_ ?_); exact rfl) | ((with_reducible refine zE (And.intro ?_ ?_)); exact kr) | (with_reducible refine zE ?_) | ((with_reducible apply zP); (first | exact o_sliceH (h := 0) rfl rfl (by omega) | exact dp)) | ((with_reducible apply zN); exact dn) | ((with_reducible apply zA); exact da) | ((with_reducible apply zS); exact ds) | ((with_reducible apply zY); exact rfl; exact rfl; exact tf) | ((with_reducible apply zG); exact rfl; exact rfl; exact tf) | ((with_reducible apply zU); exact rfl; exact rfl) | ((with_reducible apply zD); exact rfl; exact rfl) | ((with_reducible apply zB); exact rfl; exact rfl))))
        refine awp_freeze 119 rfl ?_
        (repeat' (first | (with_reducible first | intro hg | refine mv (by constructor) ?_) | ((with_reducible first | refine zR ?_ ?_ | refine zW mixed ?_ ?_); exact kr) | ((with_reducible apply zK); exact rfl; exact tf) | ((with_reducible apply zCD); exact rfl) | ((with_reducible apply zCN); exact rfl) | ((with_reducible apply zC); exact rfl) | ((with_reducible refine zX ?_ ?_); exact rfl) | ((with_reducible refine zE (And.intro ?_ ?_)); exact kr) | (with_reducible refine zE ?_) | ((with_reducible apply zP); exact dp) | ((with_reducible apply zN); exact dn) | ((with_reducible apply zA); exact da) | ((with_reducible apply zS); exact ds) | ((with_reducible apply zY); exact rfl; exact rfl; exact tf) | ((with_reducible apply zG); exact rfl; exact rfl; exact tf) | ((with_reducible apply zU); exact rfl; exact rfl) | ((with_reducible apply zD); exact rfl; exact rfl) | ((with_reducible apply zB); exact rfl; exact rfl)))
        exact ⟨0 + 1, ⟨htl, hallS⟩, by omega, (And.intro rfl (And.intro rfl (And.intro (hfz _ hcells) (And.intro (rfl) (And.intro (congrArg (fun n : Int => AV.d (I n)) hT1) (And.intro (rfl) (And.intro (rfl) (And.intro (rfl) trivial)))))))), (And.intro rfl (And.intro rfl (And.intro (congrArg (fun l => some (Blk.mk _ l)) hos) trivial)))⟩
      · have hm1c : ((m + 1 + 1 : Nat) : Int) - 1 = ((m + 1 : Nat) : Int) := by omega
        have hap : (1 : Nat) + (m + 1) = m + 1 + 1 := by omega
        (repeat' ((fail_if_success (with_reducible show AWp _ _ (.region 27 _ _) _ _)); (first | (with_reducible first | intro hg | refine mv (by constructor) ?_) | ((with_reducible first | refine zR ?_ ?_ | refine zW mixed ?_ ?_); exact kr) | ((with_reducible apply zK); exact rfl; exact tf) | ((with_reducible apply zCD); exact rfl) | ((with_reducible apply zCN); exact rfl) | ((with_reducible apply zC); exact rfl) | ((with_reducible refine zX ?_ ?_); exact rfl) | ((with_reducible refine zE (And.intro ?_ ?_)); exact kr) | (with_reducible refine zE ?_) | ((with_reducible apply zP); (first | exact o_sliceH (h := m + 1) rfl (congrArg (fun n : Int => AV.d (I n)) hm1c) (by omega) | exact dp)) | ((with_reducible apply zN); exact dn) | ((with_reducible apply zA); (first | ((apply o_app); (case hx => exact rfl); (case hm => exact rfl); (case hy => exact .own rfl rfl); (case hty => exact rfl); (case hl => solve | exact htk | rfl); (case hcl => solve | rfl | exact htk | simp); (case hpos => omega); (case hb => omega); (case hb2 => omega); (case hnew => exact rfl)) | ((apply o_app); (case hx => exact rfl); (case hm => exact rfl); (case hy => exact .sl rfl); (case hty => exact rfl); (case hl => solve | exact htk | rfl); (case hcl => solve | rfl | exact htk | simp); (case hpos => omega); (case hb => omega); (case hb2 => omega); (case hnew => exact rfl)) | exact da)) | ((with_reducible apply zS); exact ds) | ((with_reducible apply zY); exact rfl; exact rfl; exact tf) | ((with_reducible apply zG); exact rfl; exact rfl; exact tf) | ((with_reducible apply zU); exact rfl; exact rfl) | ((with_reducible apply zD); exact rfl; exact rfl) | ((with_reducible apply zB); exact rfl; exact rfl))))
        have hfz2 : ∀ l : List DV, l = rgS (stF den cs dz x (0 + 1)) → AV.d (.slice (1 + (m + 1)) ((l.drop 0).take ((1 + (m + 1)) * 2))) = .d (.slice x.length (rgS (stF den cs dz x (0 + 1)))) := by rw [hap]; exact hfz
        refine awp_freeze 125 rfl ?_
        (repeat' (first | (with_reducible first | intro hg | refine mv (by constructor) ?_) | ((with_reducible first | refine zR ?_ ?_ | refine zW mixed ?_ ?_); exact kr) | ((with_reducible apply zK); exact rfl; exact tf) | ((with_reducible apply zCD); exact rfl) | ((with_reducible apply zCN); exact rfl) | ((with_reducible apply zC); exact rfl) | ((with_reducible refine zX ?_ ?_); exact rfl) | ((with_reducible refine zE (And.intro ?_ ?_)); exact kr) | (with_reducible refine zE ?_) | ((with_reducible apply zP); exact dp) | ((with_reducible apply zN); exact dn) | ((with_reducible apply zA); exact da) | ((with_reducible apply zS); exact ds) | ((with_reducible apply zY); exact rfl; exact rfl; exact tf) | ((with_reducible apply zG); exact rfl; exact rfl; exact tf) | ((with_reducible apply zU); exact rfl; exact rfl) | ((with_reducible apply zD); exact rfl; exact rfl) | ((with_reducible apply zB); exact rfl; exact rfl)))
        exact ⟨0 + 1, ⟨htl, hallS⟩, by omega, (And.intro rfl (And.intro rfl (And.intro (hfz2 _ hcells) (And.intro (rfl) (And.intro (congrArg (fun n : Int => AV.d (I n)) hT1) (And.intro (rfl) (And.intro (rfl) (And.intro (rfl) trivial)))))))), (And.intro rfl (And.intro rfl (And.intro (congrArg (fun l => some (Blk.mk _ l)) hos) trivial)))⟩
  · (repeat' (first | (with_reducible first | intro hg | refine mv (by constructor) ?_) | ((with_reducible first | refine zR ?_ ?_ | refine zW mixed ?_ ?_); exact kr) | ((with_reducible apply zK); exact rfl; exact tf) | ((with_reducible apply zCD); exact rfl) | ((with_reducible apply zCN); exact rfl) | ((with_reducible apply zC); exact rfl) | ((with_reducible refine zX ?_ ?_); exact rfl) | ((with_reducible refine zE (And.intro ?_ ?_)); exact kr) | (with_reducible refine zE ?_) | ((with_reducible apply zP); (first | exact o_indexF [] (j := t + 1) llC_len (by decide) rfl rfl (by omega) rfl | exact o_indexI (xs := dz) (j := t + 1) rfl rfl (by omega) rfl | exact dp)) | ((with_reducible apply zN); exact dn) | ((with_reducible apply zA); exact da) | ((with_reducible apply zS); exact ds) | ((with_reducible apply zY); exact rfl; exact rfl; exact tf) | ((with_reducible apply zG); exact rfl; exact rfl; exact tf) | ((with_reducible apply zU); exact rfl; exact rfl) | ((with_reducible apply zD); exact rfl; exact rfl) | ((with_reducible apply zB); exact rfl; exact rfl)))
    refine awp_loopL (α := Nat) (fun i => [(2, .ptr 2 0), (3, .ptr 3 0), (8, .d (.slice x.length (rgS (stF den cs dz x (t + 1))))), (9, ownZ 117 2 (t + 1)), (12, .d (I (D * den))), (15, .d (I (runN D den (nth dz (t + 1)) r (hst den cs dz x (t + 1)) i))), (59, .d (llV cs)), (60, .d (I cs.length)), (61, .d (I (t + 1 : Nat))), (77, .d (isl (cs.getD (t + 1) []))), (78, .d (I x.length)), (79, .d (I i))]) (fun _ => (2, ⟨24, [rgV c, I den]⟩) :: (3, ⟨28, runC x cs dz⟩) :: ownM 117 56 (rgS (outF den cs dz x (t + 1))) (t + 1)) (fun i => i ≤ x.length) (fun i => x.length - i) 0 (Nat.zero_le _) (And.intro rfl (And.intro rfl (And.intro rfl (And.intro rfl (And.intro rfl (And.intro rfl (And.intro rfl (And.intro rfl (And.intro rfl (And.intro rfl (And.intro (congrArg (fun n : Nat => AV.d (I n)) hrl8) (And.intro (rfl) trivial)))))))))))) (And.intro rfl (And.intro rfl (And.intro rfl trivial))) fun i hi => ?_
    by_cases hil : i < x.length
    · have hx1 := hbnd i
      have hx2 := hbnd (i + 1)
      have hi1 : i * (10 * K) ≤ 3 * (10 * K) := Nat.mul_le_mul_right _ (by omega)
      have hi2 : (i + 1) * (10 * K) ≤ 3 * (10 * K) := Nat.mul_le_mul_right _ (by omega)
      obtain ⟨hx3, hx4⟩ := htrm i
      obtain ⟨_, _, hg0, hg1⟩ := hprt i
      have hg := hsg i hil
      have hsu : runN D den (nth dz (t + 1)) r (hst den cs dz x (t + 1)) (i + 1) = runN D den (nth dz (t + 1)) r (hst den cs dz x (t + 1)) i + nth r i * ((hst den cs dz x (t + 1)).getD i 0).num * (D / (((hst den cs dz x (t + 1)).getD i 0).den : Int)) := rfl
      have hdp := den_pos ((hst den cs dz x (t + 1)).getD i 0)
      rw [← hrn] at hsu hx3 hx4
      have hnum : ((stF den cs dz x (t + 1)).getD i rg0).1 = ((hst den cs dz x (t + 1)).getD i 0).num := congrArg Prod.fst hg
      have hdn : ((stF den cs dz x (t + 1)).getD i rg0).2 = (((hst den cs dz x (t + 1)).getD i 0).den : Int) := congrArg Prod.snd hg
      rw [← hnum, ← hdn] at hsu hx3
      rw [← hnum] at hx4
      rw [← hdn] at hg0 hg1 hdp
      clear hbnd htrm hprt hrun hsg hg hnum hdn hnext hstm hols
      generalize runN D den (nth dz (t + 1)) r (hst den cs dz x (t + 1)) i = S0 at *
      obtain ⟨q, hq⟩ : ∃ q, q = D / ((stF den cs dz x (t + 1)).getD i rg0).2 := ⟨_, rfl⟩
      rw [← hq] at hsu hx3 hg0 hg1
      have hq2 : IntKind.i64.wrap (D.tdiv ((stF den cs dz x (t + 1)).getD i rg0).2) = q := by
        rw [hq, Int.tdiv_eq_ediv_of_nonneg (by omega)]
        refine wr ?_
        have := Int.ediv_le_self ((stF den cs dz x (t + 1)).getD i rg0).2 (show 0 ≤ D by omega)
        omega
      have hS0 : -1000000000000000000 ≤ S0 ∧ S0 ≤ 1000000000000000000 := by omega
      have hS1 : -1000000000000000000 ≤ runN D den (nth dz (t + 1)) r (hst den cs dz x (t + 1)) (i + 1) ∧ runN D den (nth dz (t + 1)) r (hst den cs dz x (t + 1)) (i + 1) ≤ 1000000000000000000 := by omega
      have hT1 : -1000000000000000000 ≤ nth (cs.getD (t + 1) []) i * ((stF den cs dz x (t + 1)).getD i rg0).1 * q ∧ nth (cs.getD (t + 1) []) i * ((stF den cs dz x (t + 1)).getD i rg0).1 * q ≤ 1000000000000000000 := by omega
      have hT2 : -1000000000000000000 ≤ nth (cs.getD (t + 1) []) i * ((stF den cs dz x (t + 1)).getD i rg0).1 ∧ nth (cs.getD (t + 1) []) i * ((stF den cs dz x (t + 1)).getD i rg0).1 ≤ 1000000000000000000 := by omega
      clear hx1 hx2 hi1 hi2 hx3 hx4 hq hg0 hg1 hm1 hm1'
      (repeat' (first | (with_reducible first | intro hg | refine mv (by constructor) ?_) | ((with_reducible first | refine zR ?_ ?_ | refine zW mixed ?_ ?_); exact kr) | ((with_reducible apply zK); exact rfl; exact tf) | ((with_reducible apply zCD); exact rfl) | ((with_reducible apply zCN); exact rfl) | ((with_reducible apply zC); exact rfl) | ((with_reducible refine zX ?_ ?_); exact rfl) | ((with_reducible refine zE (And.intro ?_ ?_)); exact kr) | (with_reducible refine zE ?_) | ((with_reducible apply zP); (first | exact o_indexI (xs := cs.getD (t + 1) []) (j := i) rfl rfl (by omega) rfl | exact o_indexF rg0 (xs := stF den cs dz x (t + 1)) frC_len (by decide) rfl rfl (by omega) (by exact hsl.symm) | exact o_quo (r := D) rfl rfl (by omega) (by exact hq1) | exact o_quo (r := q) rfl rfl (by omega) (by exact hq2) | exact dp)) | ((with_reducible apply zN); exact dn) | ((with_reducible apply zA); exact da) | ((with_reducible apply zS); exact ds) | ((with_reducible apply zY); exact rfl; exact rfl; exact tf) | ((with_reducible apply zG); exact rfl; exact rfl; exact tf) | ((with_reducible apply zU); exact rfl; exact rfl) | ((with_reducible apply zD); exact rfl; exact rfl) | ((with_reducible apply zB); exact rfl; exact rfl)))
      exact ⟨i + 1, hil, by omega, (And.intro rfl (And.intro rfl (And.intro rfl (And.intro rfl (And.intro rfl (And.intro (congrArg (fun n : Int => AV.d (I n)) hsu.symm) (And.intro (rfl) (And.intro (rfl) (And.intro (rfl) (And.intro (rfl) (And.intro (rfl) (And.intro (rfl) trivial)))))))))))), (And.intro rfl (And.intro rfl (And.intro rfl trivial)))⟩
    obtain rfl : i = x.length := by omega
    have hx1 := hbnd x.length
    have hi1 : x.length * (10 * K) ≤ 3 * (10 * K) := Nat.mul_le_mul_right _ (by omega)
    have hru := hrun x.length
    rw [← hrl, ← hvt, hrl] at hru
    have hre := ov_eq (show D * den ≠ 0 by omega) hru
    have wfr := fraction_A (runN D den (nth dz (t + 1)) r (hst den cs dz x (t + 1)) x.length) (D * den) ⟨by omega, by omega⟩ (by omega) (by omega)
    rw [frcR_eq (show 0 < D * den by omega), ← hre] at wfr
    generalize runN D den (nth dz (t + 1)) r (hst den cs dz x (t + 1)) x.length = S0 at *
    clear hbnd htrm hprt hrun hsg hx1 hi1 hru hre
    cases hsm : smQ (vlt den cs dz x (t + 1))
    · have hq : frQ (vlt den cs dz x (t + 1)) = ((0, 0), 8) := by unfold frQ; rw [hsm]; rfl
      have hRn : R = ([], 8) := by rw [hR]; exact rnV_no htl hsm
      rw [hq] at wfr
      rw [hRn]
      (repeat' ((fail_if_success (with_reducible show AWp _ _ .ret _ _)); (first | (with_reducible first | intro hg | refine mv (by constructor) ?_) | ((with_reducible first | refine zR ?_ ?_ | refine zW mixed ?_ ?_); exact kr) | ((with_reducible apply zK); exact rfl; exact tf) | ((with_reducible apply zCD); exact rfl) | ((with_reducible apply zCN); exact rfl) | ((with_reducible apply zC); exact rfl) | ((with_reducible refine zX ?_ ?_); exact rfl) | ((with_reducible refine zE (And.intro ?_ ?_)); exact kr) | (with_reducible refine zE ?_) | ((with_reducible apply zP); (first | exact dp | exact oc rfl (wfr))) | ((with_reducible apply zN); exact dn) | ((with_reducible apply zA); exact da) | ((with_reducible apply zS); exact ds) | ((with_reducible apply zY); exact rfl; exact rfl; exact tf) | ((with_reducible apply zG); exact rfl; exact rfl; exact tf) | ((with_reducible apply zU); exact rfl; exact rfl) | ((with_reducible apply zD); exact rfl; exact rfl) | ((with_reducible apply zB); exact rfl; exact rfl))))
      refine awp_nil 4 rfl ?_
      exact zF
    · have hq : frQ (vlt den cs dz x (t + 1)) = (qF (vlt den cs dz x (t + 1)), 0) := by unfold frQ; rw [hsm]; rfl
      rw [hq] at wfr
      (repeat' ((fail_if_success (with_reducible show AWp _ _ (.region 25 _ _) _ _)); (first | (with_reducible first | intro hg | refine mv (by constructor) ?_) | ((with_reducible first | refine zR ?_ ?_ | refine zW mixed ?_ ?_); exact kr) | ((with_reducible apply zK); exact rfl; exact tf) | ((with_reducible apply zCD); exact rfl) | ((with_reducible apply zCN); exact rfl) | ((with_reducible apply zC); exact rfl) | ((with_reducible refine zX ?_ ?_); exact rfl) | ((with_reducible refine zE (And.intro ?_ ?_)); exact kr) | (with_reducible refine zE ?_) | ((with_reducible apply zP); (first | exact dp | exact oc rfl (wfr))) | ((with_reducible apply zN); exact dn) | ((with_reducible apply zA); exact da) | ((with_reducible apply zS); exact ds) | ((with_reducible apply zY); exact rfl; exact rfl; exact tf) | ((with_reducible apply zG); exact rfl; exact rfl; exact tf) | ((with_reducible apply zU); exact rfl; exact rfl) | ((with_reducible apply zD); exact rfl; exact rfl) | ((with_reducible apply zB); exact rfl; exact rfl))))
      refine awp_cut [(2, .ptr 2 0), (3, .ptr 3 0), (8, .d (.slice (m + 1) (rgS (stF den cs dz x (t + 1))))), (9, ownZ 117 2 (t + 1)), (12, .d (I (D * den))), (18, .ptr 18 0), (59, .d (llV cs)), (60, .d (I cs.length)), (61, .d (I (t + 1 : Nat)))] ((2, ⟨24, [rgV c, I den]⟩) :: (3, ⟨28, runC x cs dz⟩) :: (18, ⟨56, frC (qF (vlt den cs dz x (t + 1)))⟩) :: ownM 117 56 (rgS (outF den cs dz x (t + 1))) (t + 1)) (And.intro rfl (And.intro rfl (And.intro (congrArg (fun n : Nat => AV.d (.slice n (rgS (stF den cs dz x (t + 1))))) hm) (And.intro (rfl) (And.intro (rfl) (And.intro (rfl) (And.intro (rfl) (And.intro (rfl) (And.intro (rfl) trivial))))))))) (And.intro rfl (And.intro rfl (And.intro rfl (And.intro rfl trivial)))) ?_
      have hos : rgS (outF den cs dz x (t + 1)) ++ frC (qF (vlt den cs dz x (t + 1))) = rgS (outF den cs dz x (t + 1 + 1)) := by rw [hols]; exact rgS_snoc _ _
      have hT1 : D * den = den ^ (t + 1 + 1) := hps.symm
      have hallS : ∀ k, k < t + 1 + 1 → smQ (vlt den cs dz x k) = true := fun k hk => by
        rcases Nat.lt_succ_iff_lt_or_eq.1 hk with h | h
        · exact hall k h
        · rw [h]; exact hsm
      have hcells : frC (qF (vlt den cs dz x (t + 1))) ++ (rgS (stF den cs dz x (t + 1))).take (m * 2) = rgS (stF den cs dz x (t + 1 + 1)) := by
        rw [hnext, hm, rgS_take]; rfl
      have hsl2 := stF_len den cs dz x (t + 1 + 1)
      have hsr2 := rgS_len (stF den cs dz x (t + 1 + 1))
      have hfz : ∀ l : List DV, l = rgS (stF den cs dz x (t + 1 + 1)) → AV.d (.slice (m + 1) ((l.drop 0).take ((m + 1) * 2))) = .d (.slice x.length (rgS (stF den cs dz x (t + 1 + 1)))) := fun l hl => by
        subst hl
        rw [List.drop_zero, List.take_of_length_le (by omega), hm]
      have htk : ((rgS (stF den cs dz x (t + 1))).take (m * 2)).length = m * 2 := by rw [List.length_take]; omega
      generalize vlt den cs dz x (t + 1) = v at *
      generalize rgS (stF den cs dz x (t + 1)) = S8 at *
      clear hnext hstm hols hq hsl hsl2
      rcases m with _ | m
      · have hcells : frC (qF v) = rgS (stF den cs dz x (t + 1 + 1)) := by rw [← hcells, Nat.zero_mul, List.take_zero, List.append_nil]
        (repeat' ((fail_if_success (with_reducible show AWp _ _ (.region 27 _ _) _ _)); (first | (with_reducible first | intro hg | refine mv (by constructor) ?_) | ((with_reducible first | refine zR ?_ ?_ | refine zW mixed ?_ ?_); exact kr) | ((with_reducible apply zK); exact rfl; exact tf) | ((with_reducible apply zCD); exact rfl) | ((with_reducible apply zCN); exact rfl) | ((with_reducible apply zC); exact rfl) | ((with_reducible refine zX ?_ ?_); exact rfl) | ((with_reducible refine zE (And.intro ?_ ?_)); exact kr) | (with_reducible refine zE ?_) | ((with_reducible apply zP); (first | exact o_sliceH (h := 0) rfl rfl (by omega) | exact dp)) | ((with_reducible apply zN); exact dn) | ((with_reducible apply zA); (first | ((apply o_app); (case hx => exact rfl); (case hm => exact rfl); (case hy => exact .own rfl rfl); (case hty => exact rfl); (case hl => solve | exact holn | rfl); (case hcl => solve | rfl | exact holn | simp); (case hpos => omega); (case hb => omega); (case hb2 => omega); (case hnew => exact rfl)) | ((apply o_app); (case hx => exact rfl); (case hm => exact rfl); (case hy => exact .sl rfl); (case hty => exact rfl); (case hl => solve | exact holn | rfl); (case hcl => solve | rfl | exact holn | simp); (case hpos => omega); (case hb => omega); (case hb2 => omega); (case hnew => exact rfl)) | exact da)) | ((with_reducible apply zS); exact ds) | ((with_reducible apply zY); exact rfl; exact rfl; exact tf) | ((with_reducible apply zG); exact rfl; exact rfl; exact tf) | ((with_reducible apply zU); exact rfl; exact rfl) | ((with_reducible apply zD); exact rfl; exact rfl) | ((with_reducible apply zB); exact rfl; exact rfl))))
        refine awp_freeze 119 rfl ?_
        (repeat' (first | (with_reducible first | intro hg | refine mv (by constructor) ?_) | ((with_reducible first | refine zR ?_ ?_ | refine zW mixed ?_ ?_); exact kr) | ((with_reducible apply zK); exact rfl; exact tf) | ((with_reducible apply zCD); exact rfl) | ((with_reducible apply zCN); exact rfl) | ((with_reducible apply zC); exact rfl) | ((with_reducible refine zX ?_ ?_); exact rfl) | ((with_reducible refine zE (And.intro ?_ ?_)); exact kr) | (with_reducible refine zE ?_) | ((with_reducible apply zP); exact dp) | ((with_reducible apply zN); exact dn) | ((with_reducible apply zA); exact da) | ((with_reducible apply zS); exact ds) | ((with_reducible apply zY); exact rfl; exact rfl; exact tf) | ((with_reducible apply zG); exact rfl; exact rfl; exact tf) | ((with_reducible apply zU); exact rfl; exact rfl) | ((with_reducible apply zD); exact rfl; exact rfl) | ((with_reducible apply zB); exact rfl; exact rfl)))
        exact ⟨t + 1 + 1, ⟨htl, hallS⟩, by omega, (And.intro rfl (And.intro rfl (And.intro (hfz _ hcells) (And.intro (rfl) (And.intro (congrArg (fun n : Int => AV.d (I n)) hT1) (And.intro (rfl) (And.intro (rfl) (And.intro (rfl) trivial)))))))), (And.intro rfl (And.intro rfl (And.intro (congrArg (fun l => some (Blk.mk _ l)) hos) trivial)))⟩
      · have hm1c : ((m + 1 + 1 : Nat) : Int) - 1 = ((m + 1 : Nat) : Int) := by omega
        have hap : (1 : Nat) + (m + 1) = m + 1 + 1 := by omega
        (repeat' ((fail_if_success (with_reducible show AWp _ _ (.region 27 _ _) _ _)); (first | (with_reducible first | intro hg | refine mv (by constructor) ?_) | ((with_reducible first | refine zR ?_ ?_ | refine zW mixed ?_ ?_); exact kr) | ((with_reducible apply zK); exact rfl; exact tf) | ((with_reducible apply zCD); exact rfl) | ((with_reducible apply zCN); exact rfl) | ((with_reducible apply zC); exact rfl) | ((with_reducible refine zX ?_ ?_); exact rfl) | ((with_reducible refine zE (And.intro ?_ ?_)); exact kr) | (with_reducible refine zE ?_) | ((with_reducible apply zP); (first | exact o_sliceH (h := m + 1) rfl (congrArg (fun n : Int => AV.d (I n)) hm1c) (by omega) | exact dp)) | ((with_reducible apply zN); exact dn) | ((with_reducible apply zA); (first | ((apply o_app); (case hx => exact rfl); (case hm => exact rfl); (case hy => exact .own rfl rfl); (case hty => exact rfl); (case hl => solve | exact holn | rfl); (case hcl => solve | rfl | exact holn | simp); (case hpos => omega); (case hb => omega); (case hb2 => omega); (case hnew => exact rfl)) | ((apply o_app); (case hx => exact rfl); (case hm => exact rfl); (case hy => exact .sl rfl); (case hty => exact rfl); (case hl => solve | exact holn | rfl); (case hcl => solve | rfl | exact holn | simp); (case hpos => omega); (case hb => omega); (case hb2 => omega); (case hnew => exact rfl)) | ((apply o_app); (case hx => exact rfl); (case hm => exact rfl); (case hy => exact .own rfl rfl); (case hty => exact rfl); (case hl => solve | exact htk | rfl); (case hcl => solve | rfl | exact htk | simp); (case hpos => omega); (case hb => omega); (case hb2 => omega); (case hnew => exact rfl)) | ((apply o_app); (case hx => exact rfl); (case hm => exact rfl); (case hy => exact .sl rfl); (case hty => exact rfl); (case hl => solve | exact htk | rfl); (case hcl => solve | rfl | exact htk | simp); (case hpos => omega); (case hb => omega); (case hb2 => omega); (case hnew => exact rfl)) | exact da)) | ((with_reducible apply zS); exact ds) | ((with_reducible apply zY); exact rfl; exact rfl; exact tf) | ((with_reducible apply zG); exact rfl; exact rfl; exact tf) | ((with_reducible apply zU); exact rfl; exact rfl) | ((with_reducible apply zD); exact rfl; exact rfl) | ((with_reducible apply zB); exact rfl; exact rfl))))
        have hfz2 : ∀ l : List DV, l = rgS (stF den cs dz x (t + 1 + 1)) → AV.d (.slice (1 + (m + 1)) ((l.drop 0).take ((1 + (m + 1)) * 2))) = .d (.slice x.length (rgS (stF den cs dz x (t + 1 + 1)))) := by rw [hap]; exact hfz
        refine awp_freeze 125 rfl ?_
        (repeat' (first | (with_reducible first | intro hg | refine mv (by constructor) ?_) | ((with_reducible first | refine zR ?_ ?_ | refine zW mixed ?_ ?_); exact kr) | ((with_reducible apply zK); exact rfl; exact tf) | ((with_reducible apply zCD); exact rfl) | ((with_reducible apply zCN); exact rfl) | ((with_reducible apply zC); exact rfl) | ((with_reducible refine zX ?_ ?_); exact rfl) | ((with_reducible refine zE (And.intro ?_ ?_)); exact kr) | (with_reducible refine zE ?_) | ((with_reducible apply zP); exact dp) | ((with_reducible apply zN); exact dn) | ((with_reducible apply zA); exact da) | ((with_reducible apply zS); exact ds) | ((with_reducible apply zY); exact rfl; exact rfl; exact tf) | ((with_reducible apply zG); exact rfl; exact rfl; exact tf) | ((with_reducible apply zU); exact rfl; exact rfl) | ((with_reducible apply zD); exact rfl; exact rfl) | ((with_reducible apply zB); exact rfl; exact rfl)))
        exact ⟨t + 1 + 1, ⟨htl, hallS⟩, by omega, (And.intro rfl (And.intro rfl (And.intro (hfz2 _ hcells) (And.intro (rfl) (And.intro (congrArg (fun n : Int => AV.d (I n)) hT1) (And.intro (rfl) (And.intro (rfl) (And.intro (rfl) trivial)))))))), (And.intro rfl (And.intro rfl (And.intro (congrArg (fun l => some (Blk.mk _ l)) hos) trivial)))⟩

end Go.Proofs.YtiabcffcbhlbiaaGreat
