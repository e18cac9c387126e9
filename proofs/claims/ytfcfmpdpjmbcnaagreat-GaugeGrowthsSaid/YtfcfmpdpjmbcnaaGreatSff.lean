/- The run of a loop. -/
import Derived.Test.YtfcfmpdpjmbcnaaGreatSe
import Derived.Test.YtfcfmpdpjmbcnaaGreatSc
set_option linter.unusedVariables false
set_option linter.unusedSimpArgs false
namespace Go.Proofs.YtfcfmpdpjmbcnaaGreat
open Go.RowKit
set_option maxRecDepth 20000
set_option maxHeartbeats 8000000

/-- What RunOf sums up, over D * den. -/
def runN (D den d : Int) (cs : List Int) (st : List Rat) : Nat → Int
  | 0 => d * (D * den)
  | i + 1 => runN D den d cs st i + nth cs i * (st.getD i 0).num * (D / ((st.getD i 0).den : Int))
theorem part_mul {D : Int} {K : Nat} {r : Rat} (hD : 0 < D) (h : Ov D K r) : r * (D : Rat) = ((r.num * (D / (r.den : Int)) : Int) : Rat) ∧ (r.num * (D / (r.den : Int))).natAbs ≤ K ∧ 0 < D / (r.den : Int) ∧ (r.den : Int) * (D / (r.den : Int)) = D := by
  obtain ⟨N, h1, h2⟩ := h
  obtain ⟨g, g0, g1, g2⟩ := ov_parts hD h1
  have hd := den_pos r
  have e : D / (r.den : Int) = g := by rw [g2]; exact Int.mul_ediv_cancel_left g (by omega)
  rw [e, ← g1]
  exact ⟨h1, h2, g0, g2.symm⟩
theorem runN_eq {D den d : Int} {K : Nat} {cs : List Int} {st : List Rat} (hD : 0 < D) (hd : den ≠ 0) (hs : ∀ i, Ov D K (st.getD i 0)) : ∀ i, tkS den cs d st i * ((D * den : Int) : Rat) = ((runN D den d cs st i : Int) : Rat)
  | 0 => by unfold tkS runN; rw [Rat.intCast_mul d]
  | i + 1 => by
    have ih := runN_eq (d := d) (cs := cs) hD hd hs i
    have h1 := (part_mul hD (hs i)).1
    have h2 := divInt_mul_cast (nth cs i) hd
    unfold tkS runN
    rw [Rat.intCast_add, ← ih, Int.mul_assoc, Rat.intCast_mul (nth cs i), ← h1, ← h2, Rat.intCast_mul D]
    grind
theorem runN_term {D : Int} {K : Nat} {cs : List Int} {st : List Rat} (hD : 0 < D) (hs : ∀ i, Ov D K (st.getD i 0)) (hc : ∀ i, (nth cs i).natAbs ≤ 10) (i : Nat) : (nth cs i * (st.getD i 0).num * (D / ((st.getD i 0).den : Int))).natAbs ≤ 10 * K ∧ (nth cs i * (st.getD i 0).num).natAbs ≤ 10 * K := by
  obtain ⟨_, h2, h3, _⟩ := part_mul hD (hs i)
  have h4 : (st.getD i 0).num.natAbs ≤ ((st.getD i 0).num * (D / ((st.getD i 0).den : Int))).natAbs := by
    rw [Int.natAbs_mul]
    exact Nat.le_mul_of_pos_right _ (by omega)
  constructor
  · rw [Int.mul_assoc, Int.natAbs_mul]
    exact Nat.mul_le_mul (hc i) h2
  · rw [Int.natAbs_mul]
    exact Nat.mul_le_mul (hc i) (Nat.le_trans h4 h2)
theorem runN_bnd {D den d : Int} {K : Nat} {cs : List Int} {st : List Rat} (hD : 0 < D) (hs : ∀ i, Ov D K (st.getD i 0)) (hc : ∀ i, (nth cs i).natAbs ≤ 10) : ∀ i, (runN D den d cs st i).natAbs ≤ d.natAbs * (D * den).natAbs + i * (10 * K)
  | 0 => by unfold runN; rw [Int.natAbs_mul]; omega
  | i + 1 => by
    have ih := runN_bnd (d := d) (den := den) hD hs hc i
    have := (runN_term hD hs hc i).1
    unfold runN
    rw [Nat.add_mul]
    omega
theorem bB8 {t : Nat} (h : t ≤ 8) : bB t ≤ 1000000000000000 := Nat.le_trans (bB_mono h) (by decide)
theorem bB9 {t : Nat} (h : t ≤ 9) : bB t ≤ 100000000000000000 := Nat.le_trans (bB_mono h) (by decide)
theorem pow10N {t : Nat} (h : t ≤ 9) : 10 ^ t ≤ 1000000000 := Nat.le_trans (Nat.pow_le_pow_right (by decide) h) (by decide)
theorem pow_rng {den : Int} (h : 1 ≤ den ∧ den ≤ 10) {t : Nat} (ht : t ≤ 9) : 1 ≤ den ^ t ∧ den ^ t ≤ 1000000000 := by
  have h1 := pow_pos h.1 t
  have h2 := Nat.le_trans (pow_le10 h t) (pow10N ht)
  omega
/-- The numbers of the first t ticks, as fractions. -/
def outF (den : Int) (cs : List (List Int)) (dz x : List Int) (t : Nat) : List Fr := (List.range t).map fun k => qF (vlt den cs dz x k)
theorem outF_succ (den : Int) (cs : List (List Int)) (dz x : List Int) (t : Nat) : outF den cs dz x (t + 1) = outF den cs dz x t ++ [qF (vlt den cs dz x t)] := by
  unfold outF; rw [List.range_succ, List.map_append]; rfl
theorem outF_len (den : Int) (cs : List (List Int)) (dz x : List Int) (t : Nat) : (outF den cs dz x t).length = t := by simp [outF]
/-- A state as fractions. -/
def stF (den : Int) (cs : List (List Int)) (dz x : List Int) (t : Nat) : List Fr := ((hst den cs dz x t).take x.length).map qF
theorem stF_len (den : Int) (cs : List (List Int)) (dz x : List Int) (t : Nat) : (stF den cs dz x t).length = x.length := by
  have := hst_len den cs dz x t
  unfold stF
  rw [List.length_map, List.length_take]
  omega
theorem stF_get (den : Int) (cs : List (List Int)) (dz x : List Int) (t : Nat) {i : Nat} (h : i < x.length) : (stF den cs dz x t).getD i (0, 0) = qF ((hst den cs dz x t).getD i 0) := by
  have hl := hst_len den cs dz x t
  unfold stF
  rw [List.getD_eq_getElem?_getD, List.getElem?_map, List.getElem?_take_of_lt h, List.getD_eq_getElem?_getD, List.getElem?_eq_getElem (by omega)]; rfl
theorem stF_next (den : Int) (cs : List (List Int)) (dz x : List Int) (t : Nat) (h : 0 < x.length) : stF den cs dz x (t + 1) = qF (vlt den cs dz x t) :: (stF den cs dz x t).take (x.length - 1) := by
  unfold stF
  obtain ⟨k, hk⟩ : ∃ k, x.length = k + 1 := ⟨x.length - 1, by omega⟩
  rw [hst_succ, hk, List.take_succ_cons, List.map_cons, ← List.map_take, List.take_take, show min (k + 1 - 1) (k + 1) = k by omega]
theorem stF_zero (den : Int) (cs : List (List Int)) (dz x : List Int) : stF den cs dz x 0 = x.map fun n => (n, 1) := by
  unfold stF hst
  rw [List.take_of_length_le (by simp), List.map_map]; rfl
/-- What RunOf answers for what is valid. -/
def rnV (den : Int) (cs : List (List Int)) (dz x : List Int) : List Fr × Int := bif (List.range cs.length).all fun k => smQ (vlt den cs dz x k) then (outF den cs dz x cs.length, 0) else ([], 8)
theorem rnV_no {den : Int} {cs : List (List Int)} {dz x : List Int} {t : Nat} (h : t < cs.length) (hn : smQ (vlt den cs dz x t) = false) : rnV den cs dz x = ([], 8) := by
  unfold rnV
  have : ((List.range cs.length).all fun k => smQ (vlt den cs dz x k)) = false := by
    rw [← Bool.not_eq_true, List.all_eq_true]
    intro h2
    have := h2 t (List.mem_range.2 h)
    rw [hn] at this; cases this
  rw [this]; rfl
theorem rnV_yes {den : Int} {cs : List (List Int)} {dz x : List Int} (h : ∀ t, t < cs.length → smQ (vlt den cs dz x t) = true) : rnV den cs dz x = (outF den cs dz x cs.length, 0) := by
  unfold rnV
  have : ((List.range cs.length).all fun k => smQ (vlt den cs dz x k)) = true := List.all_eq_true.2 fun t ht => h t (List.mem_range.1 ht)
  rw [this]; rfl

theorem rgS_take (l : List Rg) (k : Nat) : (rgS l).take (k * 2) = rgS (l.take k) := by
  induction l generalizing k with
  | nil => simp [rgS]
  | cons a l ih =>
    rcases k with _ | k
    · simp
    · show (frC a ++ rgS l).take ((k + 1) * 2) = frC a ++ rgS (l.take k)
      rw [← ih k, show (k + 1) * 2 = (frC a).length + k * 2 by show _ = 2 + k * 2; omega, List.take_length_add_append]
/-- A nil slice in a tuple is an empty one. -/
theorem AC.nil0 {P : Program} {f : FuncId} {args : List DV} {y : DV} (h : AC P f args (.tuple [nilV, y])) : AC P f args (.tuple [.slice 0 [], y]) := fun ok w vs hr => (h ok w vs hr).mono fun e w' ⟨v, he, hv, hb⟩ => by
  refine ⟨v, he, ?_, hb⟩
  rw [DV.rep] at hv ⊢
  obtain ⟨us, e1, h1⟩ := hv
  obtain ⟨u, us', rfl, h2, h3⟩ := repL_cons.1 h1
  exact ⟨_, e1, repL_cons.2 ⟨u, us', rfl, rep_nilS h2, h3⟩⟩
abbrev frV (l : List Fr) : DV := .slice l.length (rgS l)
abbrev runC (x : List Int) (cs : List (List Int)) (dz : List Int) : List DV := [isl x, llV cs, isl dz]
def rnE (c : List Rg) (den : Int) (x : List Int) (cs : List (List Int)) (dz : List Int) : Int := fst0 [srE c den x cs, unl (decide ((dz.length : Int) = (cs.length : Int))) 10, unl (!dz.any fun n => !inR n (-100) 100) 2]
/-- What is valid for a run. -/
structure RnOk (c : List Rg) (den : Int) (x : List Int) (cs : List (List Int)) (dz : List Int) : Prop where
  lo : LoopOk c den
  xl : x.length = c.length
  xb : ∀ i, (nth x i).natAbs ≤ 100
  cl : cs.length ≤ 8
  cf : CfOk x.length cs
  dl : dz.length = cs.length
  db : ∀ t, (nth dz t).natAbs ≤ 100
theorem any_sized {x : List Int} (h : (!x.any fun n => !inR n (-100) 100) = true) (i : Nat) : (nth x i).natAbs ≤ 100 := by
  by_cases hi : i < x.length
  · have := all_of_any h _ (nth_mem hi)
    have := inR_true.1 this
    omega
  · have : nth x i = 0 := by unfold nth; rw [List.getD_eq_getElem?_getD, List.getElem?_eq_none (by omega)]; rfl
    omega
theorem nth_out {l : List Int} {i : Nat} (h : ¬ i < l.length) : nth l i = 0 := by unfold nth; rw [List.getD_eq_getElem?_getD, List.getElem?_eq_none (by omega)]; rfl
theorem srE_ok {c : List Rg} {den : Int} {x : List Int} {cs : List (List Int)} (h : srE c den x cs = 0) : loE c den = 0 ∧ x.length = c.length ∧ (∀ i, (nth x i).natAbs ≤ 100) ∧ cs.length ≤ 8 ∧ cfE c cs = 0 := by
  unfold srE at h
  by_cases h0 : srH c den x cs = 0
  · rw [h0] at h
    obtain ⟨k1, h2⟩ := fst0_cons h0
    obtain ⟨k2, h3⟩ := fst0_cons h2
    obtain ⟨k3, h4⟩ := fst0_cons h3
    rw [fst0_one] at h4
    have k2 := of_decide_eq_true (unl_ok (by decide) k2)
    have k4 := of_decide_eq_true (unl_ok (by decide) h4)
    exact ⟨k1, by omega, any_sized (unl_ok (by decide) k3), by omega, h⟩
  · rw [beq0f h0] at h; exact absurd h h0
theorem cf_ok {c : List Rg} {den : Int} (hl : LoopOk c den) {cs : List (List Int)} (h : cfE c cs = 0) : CfOk c.length cs := by
  refine ⟨fun t ht => (cfE1_ok (cfE_ok h t ht)).1, fun t i => ?_⟩
  by_cases ht : t < cs.length
  · obtain ⟨h1, h2⟩ := cfE1_ok (cfE_ok h t ht)
    by_cases hi : i < c.length
    · have h3 := h2 i hi
      have h4 := hl.b _ (rg_mem hi)
      omega
    · rw [nth_out (by omega)]; decide
  · rw [getD_out [] (by omega), nth_out (by simp)]; decide
theorem rnE_ok {c : List Rg} {den : Int} {x : List Int} {cs : List (List Int)} {dz : List Int} (h : rnE c den x cs dz = 0) : RnOk c den x cs dz := by
  obtain ⟨k1, h2⟩ := fst0_cons h
  obtain ⟨k2, h3⟩ := fst0_cons h2
  rw [fst0_one] at h3
  obtain ⟨j1, j2, j3, j4, j5⟩ := srE_ok k1
  have k2 := of_decide_eq_true (unl_ok (by decide) k2)
  have hl := loE_ok j1
  exact ⟨hl, j2, j3, j4, by rw [j2]; exact cf_ok hl j5, by omega, any_sized (unl_ok (by decide) h3)⟩
end Go.Proofs.YtfcfmpdpjmbcnaaGreat
