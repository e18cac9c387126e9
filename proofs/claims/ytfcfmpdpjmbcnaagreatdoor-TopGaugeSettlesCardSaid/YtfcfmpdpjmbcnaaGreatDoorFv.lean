/- The weighted size of a state, by the laws across chapters (chapter 5). -/
import Derived.Test.YtfcfmpdpjmbcnaaGreatDoorEs
import Derived.Test.YtfcfmpdpjmbcnaaGreatDoorFt
import Derived.Test.YtfcfmpdpjmbcnaaGreatDoorSx
import Derived.Test.YtfcfmpdpjmbcnaaGreatDoorFz
set_option linter.unusedVariables false
set_option linter.unusedSimpArgs false
namespace Go.Proofs.YtfcfmpdpjmbcnaaGreatDoor
open Go.RowKit
set_option maxRecDepth 20000
set_option maxHeartbeats 8000000

theorem twtR_S {w : List Int} {st : List Rat} : ∀ {i : Nat}, (∀ j, j < i → RatS 8 (absR (st.getD j 0) / ((nth w j : Int) : Rat))) → RatS 8 (wtR w st i)
  | 0, _ => ((int_ratS (n := 0) (by decide) : RatS 3 ((0 : Int) : Rat))).mono (by decide)
  | i + 1, h => by
    unfold wtR
    cases decide (wtR w st i < absR (st.getD i 0) / ((nth w i : Int) : Rat))
    · exact twtR_S fun j hj => h j (by omega)
    · exact h i (by omega)
theorem twt_S {w : List Int} {st : List Rat} {n : Nat} (hS : ∀ i, RatS 5 (st.getD i 0)) (hw : ∀ i, i < n → 1 ≤ nth w i ∧ nth w i ≤ 10) {i : Nat} (hi : i ≤ n) : RatS 8 (wtR w st i) :=
  twtR_S fun j hj => by
    have h1 := hw j (by omega)
    exact (absR_S (hS j)).div (int_ratS (show (nth w j).natAbs ≤ 1000000000000000000 by omega)) (castNe (by omega))
theorem tweighted_A (L : List Rat) (w : List Int) (n : Nat) (hl : L.length = n) (hn : n ≤ 1000000) (hwl : w.length = n) (hS : ∀ i, RatS 5 (L.getD i 0)) (hw : ∀ i, i < n → 1 ≤ nth w i ∧ nth w i ≤ 10) :
    AC Tryz.prog 23 [.slice n (raS L), isl w] (ratV (wtR w L n)) := by
  have hwt := fun i hi => twt_S (w := w) (st := L) (n := n) hS hw (i := i) hi
  have wz : AC Tryz.prog 22 [.val (.int .i64 0)] (ratV (wtR w L 0)) := ratioInt_A 0 ⟨by decide, by decide⟩
  refine ac_body Tryz.func23 rfl (by kernel_rfl) fun w0 ok => ?_; show AWp _ (ctx0 w0 ok _) _ (ARet _ _ _) (entry _)
  (repeat' (first | (with_reducible first | intro hg | refine mv (by constructor) ?_) | ((with_reducible first | refine zR ?_ ?_ | refine zW mixed ?_ ?_); exact kr) | ((with_reducible apply zK); exact rfl; exact tf) | ((with_reducible apply zCD); exact rfl) | ((with_reducible apply zCN); exact rfl) | ((with_reducible apply zC); exact rfl) | ((with_reducible refine zX ?_ ?_); exact rfl) | ((with_reducible refine zE (And.intro ?_ ?_)); exact kr) | (with_reducible refine zE ?_) | ((with_reducible apply zP); (first | exact dp | exact oc rfl (wz))) | ((with_reducible apply zN); exact dn) | ((with_reducible apply zA); exact da) | ((with_reducible apply zS); exact ds) | ((with_reducible apply zY); exact rfl; exact rfl; exact tf) | ((with_reducible apply zG); exact rfl; exact rfl; exact tf) | ((with_reducible apply zU); exact rfl; exact rfl) | ((with_reducible apply zD); exact rfl; exact rfl) | ((with_reducible apply zB); exact rfl; exact rfl)))
  clear wz
  refine awp_loopL (α := Nat) (fun i => [(0, .d (.slice n (raS L))), (1, .d (isl w)), (4, .ptr 4 0), (5, .ptr 5 0), (6, .d (I i))]) (fun i => [(4, ⟨56, [I 0, nilV, I 0, nilV]⟩), (5, ⟨56, ratC (wtR w L i)⟩)]) (fun i => i ≤ n) (fun i => n - i) 0 (Nat.zero_le _) (And.intro rfl (And.intro rfl (And.intro rfl (And.intro rfl (And.intro rfl trivial))))) (And.intro rfl (And.intro rfl trivial)) fun i hi => ?_
  by_cases hil : i < n
  rotate_left
  · obtain rfl : i = n := by omega
    exact zF
  have h1 := hw i hil
  have hiw : i < w.length := by omega
  have wi := ratioInt_A (nth w i) ⟨by omega, by omega⟩
  have hj0 : ((nth w i : Int) : Rat) ≠ 0 := castNe (by omega)
  have ws := ratioSign_A (L.getD i 0)
  have wn := ratioNeg_A (L.getD i 0)
  have hd : RatS 8 (absR (L.getD i 0) / ((nth w i : Int) : Rat)) := (absR_S (hS i)).div (int_ratS (show (nth w i).natAbs ≤ 1000000000000000000 by omega)) hj0
  have wd := ratioDiv_A ((absR_S (hS i)).mono (show 5 ≤ 10000 by decide)) ((int_ratS (show (nth w i).natAbs ≤ 1000000000000000000 by omega)).mono (show 3 ≤ 10000 by decide)) hj0
  have wc := ratioCmp_A (hd.mono (show 8 ≤ 10000 by decide)) ((hwt i hi).mono (show 8 ≤ 10000 by decide))
  have hz := @cmpR_pos (absR (L.getD i 0) / ((nth w i : Int) : Rat)) (wtR w L i)
  have hcb := cmpR_bnd (absR (L.getD i 0) / ((nth w i : Int) : Rat)) (wtR w L i)
  have hsl := sign_lt (L.getD i 0)
  have hsb := sign_bnd (L.getD i 0).num
  have hnx : wtR w L (i + 1) = bif decide (wtR w L i < absR (L.getD i 0) / ((nth w i : Int) : Rat)) then absR (L.getD i 0) / ((nth w i : Int) : Rat) else wtR w L i := rfl
  have hab : absR (L.getD i 0) = bif decide (L.getD i 0 < 0) then -(L.getD i 0) else L.getD i 0 := rfl
  have hmm : n - (i + 1) < n - i := by omega
  clear hw hS hd hwt hj0 h1
  generalize wtR w L i = V at *
  by_cases hneg : L.getD i 0 < 0
  · rw [decide_eq_true hneg] at hab
    have hab : absR (L.getD i 0) = -(L.getD i 0) := hab
    have hsl := hsl.2 hneg
    rw [hab] at wd wc hz hcb hnx
    by_cases hV : V < -(L.getD i 0) / ((nth w i : Int) : Rat)
    · rw [decide_eq_true hV] at hnx
      have hnx : wtR w L (i + 1) = -(L.getD i 0) / ((nth w i : Int) : Rat) := hnx
      have hz := hz.2 hV
      generalize cmpR (-(L.getD i 0) / ((nth w i : Int) : Rat)) V = cr at *
      clear hneg hV hab hcb
      (repeat' (first | (with_reducible first | intro hg | refine mv (by constructor) ?_) | ((with_reducible first | refine zR ?_ ?_ | refine zW mixed ?_ ?_); exact kr) | ((with_reducible apply zK); exact rfl; exact tf) | ((with_reducible apply zCD); exact rfl) | ((with_reducible apply zCN); exact rfl) | ((with_reducible apply zC); exact rfl) | ((with_reducible refine zX ?_ ?_); exact rfl) | ((with_reducible refine zE (And.intro ?_ ?_)); exact kr) | (with_reducible refine zE ?_) | ((with_reducible apply zP); (first | exact o_indexF (0 : Rat) (j := i) (xs := L) ratC_len (by decide) rfl rfl hil hl.symm | exact o_indexI (xs := w) (j := i) rfl rfl hiw rfl | exact dp | exact oc rfl (wi) | exact oc rfl (ws) | exact oc rfl (wn) | exact oc rfl (wd) | exact oc rfl (wc))) | ((with_reducible apply zN); exact dn) | ((with_reducible apply zA); exact da) | ((with_reducible apply zS); exact ds) | ((with_reducible apply zY); exact rfl; exact rfl; exact tf) | ((with_reducible apply zG); exact rfl; exact rfl; exact tf) | ((with_reducible apply zU); exact rfl; exact rfl) | ((with_reducible apply zD); exact rfl; exact rfl) | ((with_reducible apply zB); exact rfl; exact rfl)))
      exact ⟨i + 1, hil, hmm, (And.intro rfl (And.intro rfl (And.intro rfl (And.intro rfl (And.intro rfl trivial))))), (And.intro rfl (And.intro (congrArg (fun r => some (Blk.mk _ (ratC r))) hnx.symm) trivial))⟩
    · rw [decide_eq_false hV] at hnx
      have hnx : wtR w L (i + 1) = V := hnx
      have hz := fun h => hV (hz.1 h)
      generalize cmpR (-(L.getD i 0) / ((nth w i : Int) : Rat)) V = cr at *
      clear hneg hV hab
      have hz : ¬ 0 < cr := hz
      (repeat' (first | (with_reducible first | intro hg | refine mv (by constructor) ?_) | ((with_reducible first | refine zR ?_ ?_ | refine zW mixed ?_ ?_); exact kr) | ((with_reducible apply zK); exact rfl; exact tf) | ((with_reducible apply zCD); exact rfl) | ((with_reducible apply zCN); exact rfl) | ((with_reducible apply zC); exact rfl) | ((with_reducible refine zX ?_ ?_); exact rfl) | ((with_reducible refine zE (And.intro ?_ ?_)); exact kr) | (with_reducible refine zE ?_) | ((with_reducible apply zP); (first | exact o_indexF (0 : Rat) (j := i) (xs := L) ratC_len (by decide) rfl rfl hil hl.symm | exact o_indexI (xs := w) (j := i) rfl rfl hiw rfl | exact dp | exact oc rfl (wi) | exact oc rfl (ws) | exact oc rfl (wn) | exact oc rfl (wd) | exact oc rfl (wc))) | ((with_reducible apply zN); exact dn) | ((with_reducible apply zA); exact da) | ((with_reducible apply zS); exact ds) | ((with_reducible apply zY); exact rfl; exact rfl; exact tf) | ((with_reducible apply zG); exact rfl; exact rfl; exact tf) | ((with_reducible apply zU); exact rfl; exact rfl) | ((with_reducible apply zD); exact rfl; exact rfl) | ((with_reducible apply zB); exact rfl; exact rfl)))
      exact ⟨i + 1, hil, hmm, (And.intro rfl (And.intro rfl (And.intro rfl (And.intro rfl (And.intro rfl trivial))))), (And.intro rfl (And.intro (congrArg (fun r => some (Blk.mk _ (ratC r))) hnx.symm) trivial))⟩
  · rw [decide_eq_false hneg] at hab
    have hab : absR (L.getD i 0) = L.getD i 0 := hab
    have hsl : ¬ (L.getD i 0).num.sign < 0 := fun h => hneg (hsl.1 h)
    rw [hab] at wd wc hz hcb hnx
    by_cases hV : V < L.getD i 0 / ((nth w i : Int) : Rat)
    · rw [decide_eq_true hV] at hnx
      have hnx : wtR w L (i + 1) = L.getD i 0 / ((nth w i : Int) : Rat) := hnx
      have hz := hz.2 hV
      generalize cmpR (L.getD i 0 / ((nth w i : Int) : Rat)) V = cr at *
      clear hneg hV hab hcb
      (repeat' (first | (with_reducible first | intro hg | refine mv (by constructor) ?_) | ((with_reducible first | refine zR ?_ ?_ | refine zW mixed ?_ ?_); exact kr) | ((with_reducible apply zK); exact rfl; exact tf) | ((with_reducible apply zCD); exact rfl) | ((with_reducible apply zCN); exact rfl) | ((with_reducible apply zC); exact rfl) | ((with_reducible refine zX ?_ ?_); exact rfl) | ((with_reducible refine zE (And.intro ?_ ?_)); exact kr) | (with_reducible refine zE ?_) | ((with_reducible apply zP); (first | exact o_indexF (0 : Rat) (j := i) (xs := L) ratC_len (by decide) rfl rfl hil hl.symm | exact o_indexI (xs := w) (j := i) rfl rfl hiw rfl | exact dp | exact oc rfl (wi) | exact oc rfl (ws) | exact oc rfl (wn) | exact oc rfl (wd) | exact oc rfl (wc))) | ((with_reducible apply zN); exact dn) | ((with_reducible apply zA); exact da) | ((with_reducible apply zS); exact ds) | ((with_reducible apply zY); exact rfl; exact rfl; exact tf) | ((with_reducible apply zG); exact rfl; exact rfl; exact tf) | ((with_reducible apply zU); exact rfl; exact rfl) | ((with_reducible apply zD); exact rfl; exact rfl) | ((with_reducible apply zB); exact rfl; exact rfl)))
      exact ⟨i + 1, hil, hmm, (And.intro rfl (And.intro rfl (And.intro rfl (And.intro rfl (And.intro rfl trivial))))), (And.intro rfl (And.intro (congrArg (fun r => some (Blk.mk _ (ratC r))) hnx.symm) trivial))⟩
    · rw [decide_eq_false hV] at hnx
      have hnx : wtR w L (i + 1) = V := hnx
      have hz := fun h => hV (hz.1 h)
      generalize cmpR (L.getD i 0 / ((nth w i : Int) : Rat)) V = cr at *
      clear hneg hV hab
      have hz : ¬ 0 < cr := hz
      (repeat' (first | (with_reducible first | intro hg | refine mv (by constructor) ?_) | ((with_reducible first | refine zR ?_ ?_ | refine zW mixed ?_ ?_); exact kr) | ((with_reducible apply zK); exact rfl; exact tf) | ((with_reducible apply zCD); exact rfl) | ((with_reducible apply zCN); exact rfl) | ((with_reducible apply zC); exact rfl) | ((with_reducible refine zX ?_ ?_); exact rfl) | ((with_reducible refine zE (And.intro ?_ ?_)); exact kr) | (with_reducible refine zE ?_) | ((with_reducible apply zP); (first | exact o_indexF (0 : Rat) (j := i) (xs := L) ratC_len (by decide) rfl rfl hil hl.symm | exact o_indexI (xs := w) (j := i) rfl rfl hiw rfl | exact dp | exact oc rfl (wi) | exact oc rfl (ws) | exact oc rfl (wn) | exact oc rfl (wd) | exact oc rfl (wc))) | ((with_reducible apply zN); exact dn) | ((with_reducible apply zA); exact da) | ((with_reducible apply zS); exact ds) | ((with_reducible apply zY); exact rfl; exact rfl; exact tf) | ((with_reducible apply zG); exact rfl; exact rfl; exact tf) | ((with_reducible apply zU); exact rfl; exact rfl) | ((with_reducible apply zD); exact rfl; exact rfl) | ((with_reducible apply zB); exact rfl; exact rfl)))
      exact ⟨i + 1, hil, hmm, (And.intro rfl (And.intro rfl (And.intro rfl (And.intro rfl (And.intro rfl trivial))))), (And.intro rfl (And.intro (congrArg (fun r => some (Blk.mk _ (ratC r))) hnx.symm) trivial))⟩

end Go.Proofs.YtfcfmpdpjmbcnaaGreatDoor
/- IT SETTLES: narrower ranges, and growths (chapter 5, across chapters): the last part of the law. -/
set_option linter.unusedVariables false
set_option linter.unusedSimpArgs false
namespace Go.Proofs.YtfcfmpdpjmbcnaaGreatDoor
open Go.RowKit
set_option maxRecDepth 20000
set_option maxHeartbeats 8000000

def dropSt : Nat → Code → Code
  | 0, c => c
  | n + 1, .seq _ y => dropSt n y
  | _ + 1, c => c
theorem prf_nthT {n s : Nat} {w : List Int} (h : PrfOk n s w) {j : Nat} (hj : j < n) : 1 ≤ nth w j ∧ nth w j ≤ 10 := by
  have hl := h.l
  have hm : nth w j ∈ w := by
    unfold nth
    rw [List.getD_eq_getElem?_getD, List.getElem?_eq_getElem (by omega)]
    exact List.getElem_mem (by omega)
  exact h.w _ hm
theorem growth_refusedT (c : List Rg) (den : Int) (x : List Int) (cs : List (List Int)) (s : Nat) (w : List Int) (h : srE c den x cs = 0) (hp : PrfOk c.length s w) (hN : nrm c den s w < 1) (hc0 : 0 < cs.length) (hmod : cs.length % s = 0) :
    ∃ f : Fr, ∃ e : Int, (e = 19 ∨ e = 11) ∧ AC Tryz.prog 30 [loV c den, .agg (grC x cs)] (.tuple [F2 f, I e]) := by
  obtain ⟨g1, g2, g3, g4, g5⟩ := srE_ok h
  have hl := loE_ok g1
  have hcf : CfOk x.length cs := by rw [g2]; exact cf_ok hl g5
  have hl1 := hl.l1
  have hl3 := hl.l3
  have hs1 := hp.s1
  cases hz : x.any fun n => decide (n ≠ 0)
  · have e : grE c den x cs = 11 := by
      unfold grE
      rw [h, hz, decide_eq_true (show (0 : Int) < (cs.length : Int) by omega)]; rfl
    have hlr : ∀ r ∈ cs, r.length ≤ 140737488355328 := fun r hr => by
      obtain ⟨t, ht, rfl⟩ := List.getElem_of_mem hr
      have := hcf.l t ht
      rw [List.getD_eq_getElem?_getD, List.getElem?_eq_getElem ht] at this
      have this : cs[t].length = x.length := this
      omega
    have wp := checkGrowth_err c den x cs (by omega) (by omega) (by omega) hlr (by rw [e]; decide)
    rw [e] at wp
    exact ⟨_, _, .inr rfl, wp⟩
  · have hg : grE c den x cs = 0 := by
      unfold grE
      rw [h, hz, decide_eq_true (show (0 : Int) < (cs.length : Int) by omega)]; rfl
    have hV := grE_ok hg
    obtain ⟨_, n2, n3⟩ := nz_ok hz
    obtain ⟨j, hj⟩ : ∃ j, cs.length = (j + 1) * s := by
      have h1 := Nat.div_add_mod cs.length s
      rw [hmod, Nat.add_zero, Nat.mul_comm] at h1
      have h2 : 0 < cs.length / s := Nat.pos_of_ne_zero fun e => by rw [e, Nat.zero_mul] at h1; omega
      exact ⟨cs.length / s - 1, by rw [Nat.sub_add_cancel h2]; exact h1.symm⟩
    -- the coefficients, from the last one on the first one again and again
    have hrow : ∀ t, ∀ i, i < c.length → (c.getD i rg0).1 ≤ nth (cs.getD (t % cs.length) []) i ∧ nth (cs.getD (t % cs.length) []) i ≤ (c.getD i rg0).2 := fun t i hi => (cfE1_ok (cfE_ok g5 _ (Nat.mod_lt t hc0))).2 i hi
    have hle := rounds_le (den := den) (s := s) hl.d.1 (w := w) (fun i hi => (prf_nthT hp hi).1) hrow (hst den cs (zrL cs.length) x 0) hN j
    rw [← hj] at hle
    have hstE := hst_stt (den := den) (x := x) (dz := zrL cs.length) (n := c.length) (nth_zrL cs.length) (fun t ht => (cfE1_ok (cfE_ok g5 t ht)).1) cs.length (Nat.le_refl _)
    have hsame : ∀ t, t ≤ cs.length → stt den (fun t => cs.getD (t % cs.length) []) c.length (hst den cs (zrL cs.length) x 0) t = stt den (fun t => cs.getD t []) c.length (hst den cs (zrL cs.length) x 0) t := fun t => by
      induction t with
      | zero => intro _; rfl
      | succ t ih =>
        intro ht
        have ih := ih (by omega)
        show tkS den (cs.getD (t % cs.length) []) 0 (stt den (fun t => cs.getD (t % cs.length) []) c.length (hst den cs (zrL cs.length) x 0) t) c.length :: stt den (fun t => cs.getD (t % cs.length) []) c.length (hst den cs (zrL cs.length) x 0) t = tkS den (cs.getD t []) 0 (stt den (fun t => cs.getD t []) c.length (hst den cs (zrL cs.length) x 0) t) c.length :: stt den (fun t => cs.getD t []) c.length (hst den cs (zrL cs.length) x 0) t
        rw [ih, Nat.mod_eq_of_lt (show t < cs.length by omega)]
    rw [hsame cs.length (Nat.le_refl _), ← hstE] at hle
    rw [← g2] at hle
    have hN' : nrmR (powM c den x.length s) w (den ^ s) x.length x.length < 1 := by rw [g2]; exact hN
    have hno := settle_no (p := hst den cs (zrL cs.length) x 0) (fun i hi => (prf_nthT hp (by omega)).1) hN' (nrmR_nonneg _) (fun i hi => by
      show (x.map fun (a : Int) => (a : Rat)).getD i 0 = _
      unfold nth
      rw [List.getD_eq_getElem?_getD, List.getD_eq_getElem?_getD, List.getElem?_map, List.getElem?_eq_getElem hi]; rfl) hle n2 n3
    have e : gwF den x cs = ((0, 0), 19) := by
      rw [← gqR_eq hV]
      unfold gqR
      rw [decide_eq_false (show ¬ cs.length = 0 by omega), hz, hno]; rfl
    have wp := checkGrowth_ok c den x cs hg
    rw [e] at wp
    exact ⟨_, _, .inl rfl, wp⟩
theorem copyRangesO_A (B : List Rg) (h0 : 0 < B.length) (hm : B.length ≤ 1000000) : ACo Tryz.prog 42 [rgV B] 64 B.length 2 (rgS B) := by
  have hl := rgS_len B
  have h : ACo Tryz.prog 42 [rgV B] 64 (0 + B.length) 2 ([] ++ rgS B) := by
    have hne : rgS B ≠ [] := fun h => by rw [h] at hl; simp at hl; omega
    refine aco_body Tryz.func42 rfl (by kernel_rfl) fun w0 ok => ?_; show AWp _ (ctx0 w0 ok _) _ (ARetO _ _ _ _ _) (entry _)
    (repeat' (first | (with_reducible first | intro hg | refine mv (by constructor) ?_) | ((with_reducible first | refine zR ?_ ?_ | refine zW mixed ?_ ?_); exact kr) | ((with_reducible apply zK); exact rfl; exact tf) | ((with_reducible apply zCD); exact rfl) | ((with_reducible apply zCN); exact rfl) | ((with_reducible apply zC); exact rfl) | ((with_reducible refine zX ?_ ?_); exact rfl) | ((with_reducible refine zE (And.intro ?_ ?_)); exact kr) | (with_reducible refine zE ?_) | ((with_reducible apply zP); exact dp) | ((with_reducible apply zN); exact dn) | ((with_reducible apply zA); (first | ((apply o_app); (case hx => exact rfl); (case hm => exact rfl); (case hy => exact .own rfl rfl); (case hty => exact rfl); (case hl => solve | exact hl | rfl); (case hcl => solve | rfl | exact hl | simp); (case hpos => omega); (case hb => omega); (case hb2 => omega); (case hnew => exact rfl)) | ((apply o_app); (case hx => exact rfl); (case hm => exact rfl); (case hy => exact .sl rfl); (case hty => exact rfl); (case hl => solve | exact hl | rfl); (case hcl => solve | rfl | exact hl | simp); (case hpos => omega); (case hb => omega); (case hb2 => omega); (case hnew => exact rfl)) | exact da)) | ((with_reducible apply zS); exact ds) | ((with_reducible apply zY); exact rfl; exact rfl; exact tf) | ((with_reducible apply zG); exact rfl; exact rfl; exact tf) | ((with_reducible apply zU); exact rfl; exact rfl) | ((with_reducible apply zD); exact rfl; exact rfl) | ((with_reducible apply zB); exact rfl; exact rfl)))
    ((with_reducible first | apply q_retO | apply q_retON); exact rfl; exact rfl; exact rfl)
  rwa [Nat.zero_add, List.nil_append] at h
theorem qcopyX_A (c : List Rg) (den : Int) (h0 : 0 < c.length) (hm : c.length ≤ 1000000) : ACx Tryz.prog 8 [loV c den] 64 c.length 2 (rgS c) (fun x => .agg [x, I den]) := by
  have hcr := copyRangesO_A c h0 hm
  refine acx_body Tryz.func8 rfl (by kernel_rfl) fun w0 ok => ?_
  show AWp _ (ctx0 w0 ok _) _ (ARetX _ _ _ _ _ _ _) (entry _)
  (repeat' ((fail_if_success (with_reducible show AWp _ _ (.region 1 _ _) _ _)); (first | (with_reducible first | intro hg | refine mv (by constructor) ?_) | ((with_reducible first | refine zR ?_ ?_ | refine zW mixed ?_ ?_); exact kr) | ((with_reducible apply zK); exact rfl; exact tf) | ((with_reducible apply zCD); exact rfl) | ((with_reducible apply zCN); exact rfl) | ((with_reducible apply zC); exact rfl) | ((with_reducible refine zX ?_ ?_); exact rfl) | ((with_reducible refine zE (And.intro ?_ ?_)); exact kr) | (with_reducible refine zE ?_) | ((with_reducible apply zP); exact dp) | ((with_reducible apply zN); exact dn) | ((with_reducible apply zA); exact da) | ((with_reducible apply zS); exact ds) | ((with_reducible apply zY); exact rfl; exact rfl; exact tf) | ((with_reducible apply zG); exact rfl; exact rfl; exact tf) | ((with_reducible apply zU); exact rfl; exact rfl) | ((with_reducible apply zD); exact rfl; exact rfl) | ((with_reducible apply zB); exact rfl; exact rfl))))
  ((refine awp_region_anyL mixed (l1 := [_, _, _, _, _, _]) rfl ?_ ?_); exact kr; (repeat' (first | (with_reducible first | intro hg | refine mv (by constructor) ?_) | ((with_reducible first | refine zR ?_ ?_ | refine zW mixed ?_ ?_); exact kr) | ((with_reducible apply zK); exact rfl; exact tf) | ((with_reducible apply zCD); exact rfl) | ((with_reducible apply zCN); exact rfl) | ((with_reducible apply zC); exact rfl) | ((with_reducible refine zX ?_ ?_); exact rfl) | ((with_reducible refine zE (And.intro ?_ ?_)); exact kr) | (with_reducible refine zE ?_) | ((with_reducible apply zP); (first | exact o_buildDep1 (g := fun p => [linkC p.1 (p.2 / 2) c.length, I den]) rfl rfl (by intros; rfl) | exact dp)) | ((with_reducible apply zN); (first | exact dn | exact o_callO rfl hcr (.inl rfl))) | ((with_reducible apply zA); exact da) | ((with_reducible apply zS); exact ds) | ((with_reducible apply zY); exact rfl; exact rfl; exact tf) | ((with_reducible apply zG); exact rfl; exact rfl; exact tf) | ((with_reducible apply zU); exact rfl; exact rfl) | ((with_reducible apply zD); exact rfl; exact rfl) | ((with_reducible apply zB); exact rfl; exact rfl))))
  refine wpl_turn (turns_dep1 8 5 5 PN (r := fun b cap => .agg [linkC b cap c.length, I den]) (by rfl) (by rfl) (by kernel_rfl) (by rfl) (by rfl) (fun b cap => by show DV.agg [linkC b (cap * 2 / 2) c.length, I den] = _; rw [Nat.mul_div_cancel _ (by decide)])) fun x => ?_
  ((refine wpl_run (l1 := [_]) rfl ?_ ?_); exact kr; (repeat' (first | (with_reducible first | intro hg | refine mv (by constructor) ?_) | ((with_reducible first | refine zR ?_ ?_ | refine zW mixed ?_ ?_); exact kr) | ((with_reducible apply zK); exact rfl; exact tf) | ((with_reducible apply zCD); exact rfl) | ((with_reducible apply zCN); exact rfl) | ((with_reducible apply zC); exact rfl) | ((with_reducible refine zX ?_ ?_); exact rfl) | ((with_reducible refine zE (And.intro ?_ ?_)); exact kr) | (with_reducible refine zE ?_) | ((with_reducible apply zP); exact dp) | ((with_reducible apply zN); exact dn) | ((with_reducible apply zA); exact da) | ((with_reducible apply zS); exact ds) | ((with_reducible apply zY); exact rfl; exact rfl; exact tf) | ((with_reducible apply zG); exact rfl; exact rfl; exact tf) | ((with_reducible apply zU); exact rfl; exact rfl) | ((with_reducible apply zD); exact rfl; exact rfl) | ((with_reducible apply zB); exact rfl; exact rfl))))
  refine wpl_nil ?_
  (repeat' (first | (with_reducible first | intro hg | refine mv (by constructor) ?_) | ((with_reducible first | refine zR ?_ ?_ | refine zW mixed ?_ ?_); exact kr) | ((with_reducible apply zK); exact rfl; exact tf) | ((with_reducible apply zCD); exact rfl) | ((with_reducible apply zCN); exact rfl) | ((with_reducible apply zC); exact rfl) | ((with_reducible refine zX ?_ ?_); exact rfl) | ((with_reducible refine zE (And.intro ?_ ?_)); exact kr) | (with_reducible refine zE ?_) | ((with_reducible apply zP); exact dp) | ((with_reducible apply zN); exact dn) | ((with_reducible apply zA); exact da) | ((with_reducible apply zS); exact ds) | ((with_reducible apply zY); exact rfl; exact rfl; exact tf) | ((with_reducible apply zG); exact rfl; exact rfl; exact tf) | ((with_reducible apply zU); exact rfl; exact rfl) | ((with_reducible apply zD); exact rfl; exact rfl) | ((with_reducible apply zB); exact rfl; exact rfl)))
  exact ⟨_, PN, x.1.1, x.1.2, rl, rfl, rfl, Nat.le_refl _, rfl, rfl, x.2.1, x.2.2⟩
def hfL (c : List Rg) (i : Nat) : List Rg := (c.take i).map half ++ c.drop i
theorem hfL_len (c : List Rg) {i : Nat} (h : i ≤ c.length) : (hfL c i).length = c.length := by
  unfold hfL
  rw [List.length_append, List.length_map, List.length_take, List.length_drop]
  omega
theorem hfL_get {c : List Rg} {i : Nat} (h : i < c.length) : (hfL c i).getD i rg0 = c.getD i rg0 := by
  unfold hfL
  rw [List.getD_eq_getElem?_getD, List.getElem?_append_right (by rw [List.length_map, List.length_take]; omega), List.length_map, List.length_take, Nat.min_eq_left (by omega), Nat.sub_self, List.getElem?_drop, Nat.add_zero, ← List.getD_eq_getElem?_getD]
theorem hfL_set {c : List Rg} {i : Nat} (h : i < c.length) : (hfL c i).set i (half (c.getD i rg0)) = hfL c (i + 1) := by
  unfold hfL
  rw [List.set_append_right _ _ (by rw [List.length_map, List.length_take]; omega), List.length_map, List.length_take, Nat.min_eq_left (by omega), Nat.sub_self, List.drop_eq_getElem_cons h, List.set_cons_zero, List.take_add_one, List.getElem?_eq_getElem h, List.map_append, List.append_assoc, List.getD_eq_getElem?_getD, List.getElem?_eq_getElem h]
  rfl
theorem hfL_all (c : List Rg) : hfL c c.length = halfL c := by
  unfold hfL halfL
  rw [List.take_length, List.drop_length, List.append_nil]
theorem tcmp_le {r q : Rat} (hr : smQ r = true) (hq : smQ q = true) (h : r ≤ q) : ∃ u : Int, u ≤ 0 ∧ AC Tryz.prog 29 [F2 (qF r), F2 (qF q)] (I u) := by
  obtain ⟨a1, a2⟩ := smQ_bnd hr
  obtain ⟨b1, b2⟩ := smQ_bnd hq
  have a3 := den_pos r
  have b3 := den_pos q
  have hb : ∀ m d : Int, m.natAbs ≤ 1000000000 → 0 < d → d ≤ 1000000000 → -1000000000000000000 ≤ m * d ∧ m * d ≤ 1000000000000000000 := fun m d h1 h2 h3 => by
    have h4 : (m * d).natAbs ≤ 1000000000 * 1000000000 := by rw [Int.natAbs_mul]; exact Nat.mul_le_mul h1 (by omega)
    omega
  obtain ⟨k1, k2⟩ := hb r.num (q.den : Int) a1 b3 b2
  obtain ⟨k3, k4⟩ := hb q.num (r.den : Int) b1 a3 a2
  have hle : r.num * (q.den : Int) ≤ q.num * (r.den : Int) := by
    refine Int.not_lt.1 fun hlt => ?_
    exact Rat.not_lt.2 h ((Rat.lt_iff q r).2 hlt)
  clear hb a1 a2 b1 b2
  by_cases he : r.num * (q.den : Int) < q.num * (r.den : Int)
  · refine ⟨-1, by decide, ?_⟩
    show AC _ _ [.agg [I r.num, I (r.den : Int)], .agg [I q.num, I (q.den : Int)]] _
    refine ac_body Tryz.func29 rfl (by kernel_rfl) fun w0 ok => ?_; show AWp _ (ctx0 w0 ok _) _ (ARet _ _ _) (entry _)
    exact zF
  · refine ⟨0, by decide, ?_⟩
    show AC _ _ [.agg [I r.num, I (r.den : Int)], .agg [I q.num, I (q.den : Int)]] _
    refine ac_body Tryz.func29 rfl (by kernel_rfl) fun w0 ok => ?_; show AWp _ (ctx0 w0 ok _) _ (ARet _ _ _) (entry _)
    exact zF
abbrev tgS (c : List Rg) (den : Int) (s : Nat) (w x : List Int) (cs : List (List Int)) (N : Rat) : AS := ⟨frL [(3, .ptr 3 0), (4, .ptr 4 0), (5, .ptr 5 0), (9, .ptr 9 0)], memL [(3, ⟨24, [rgV c, I den]⟩), (4, ⟨39, prfC s w⟩), (5, ⟨42, grC x cs⟩), (9, ⟨47, [I N.num, I (N.den : Int)]⟩)]⟩
theorem tgs_tail (c : List Rg) (den : Int) (s : Nat) (w x : List Int) (cs : List (List Int)) (h : srE c den x cs = 0) (hp : PrfOk c.length s w) (hN : nrm c den s w < 1) (hsm : smQ (nrm c den s w) = true) (hc0 : 0 < cs.length) (w0 : World) (ok : Nat → Prop) :
    AWp Tryz.prog (ctx0 w0 ok Tryz.f4.ntmps) (dropSt 12 (Tryz.f4.body.getD .skip)) (ARet Tryz.prog Tryz.f4.results.toList (B true)) (tgS c den s w x cs (nrm c den s w)) := by
  obtain ⟨g1, g2, g3, g4, g5⟩ := srE_ok h
  have hL := loE_ok g1
  have hl1 := hL.l1
  have hl3 := hL.l3
  have hs1 := hp.s1
  have hs6 := hp.s6
  have hwl := hp.l
  have hcf : CfOk x.length cs := by rw [g2]; exact cf_ok hL g5
  have g6 : ∀ r ∈ cs, r.length ≤ 1000000 := fun r hr => by
    obtain ⟨t, ht, rfl⟩ := List.getElem_of_mem hr
    have := hcf.l t ht
    rw [List.getD_eq_getElem?_getD, List.getElem?_eq_getElem ht] at this
    have this : cs[t].length = x.length := this
    omega
  have hH := halfL_ok hL
  have hHl : (halfL c).length = c.length := by unfold halfL; rw [List.length_map]
  have hp' : PrfOk (halfL c).length s w := by rw [hHl]; exact hp
  have wse := checkSettling_q (halfL c) den (loE_of hH) s w hp'
  have hle : nrm (halfL c) den s w ≤ nrm c den s w := by
    unfold nrm
    rw [hHl]
    refine nrmR_in hL.d.1 (halfL_in fun r hr => (hL.b r hr).2.2) (fun i hi => (prf_nthT hp hi).1) fun j => ?_
    by_cases hj : j < c.length
    · have := prf_nthT hp hj; omega
    · rw [nth_out (by omega)]; exact Int.le_refl _
  have hN' : nrm (halfL c) den s w < 1 := rlt1 hle hN
  have e : ckS (nrm (halfL c) den s w) = frQ (nrm (halfL c) den s w) := by unfold ckS; rw [decide_eq_true hN']; rfl
  rw [e] at wse
  clear e
  have wcx := qcopyX_A c den hl1 (by omega)
  have wc := qcopy_A c den (by omega)
  have wp := copyProof_A (s : Int) w (by omega)
  have wg : AC Tryz.prog 31 [.agg (grC x cs)] (.agg (grC x cs)) := copyGrowth_A x cs (by omega) (by omega) g6
  have hgr := growth_refusedT c den x cs s w h hp hN hc0
  have hrng : ∀ i, i < c.length → (-10 ≤ (c.getD i rg0).1 ∧ (c.getD i rg0).1 ≤ 10) ∧ (-10 ≤ (c.getD i rg0).2 ∧ (c.getD i rg0).2 ≤ 10) ∧ (c.getD i rg0).1 ≤ (c.getD i rg0).2 := fun i hi => hL.b _ (rg_mem hi)
  clear hH hp' hN' hL h hp hN hcf g6 g1 g3 g5
  show AWp _ _ (.seq _ _) _ _
  (repeat' ((fail_if_success (with_reducible show AWp _ _ (.region 38 _ _) _ _)); (first | (with_reducible first | intro hg | refine mv (by constructor) ?_) | ((with_reducible first | refine zR ?_ ?_ | refine zW mixed ?_ ?_); exact kr) | ((with_reducible apply zK); exact rfl; exact tf) | ((with_reducible apply zCD); exact rfl) | ((with_reducible apply zCN); exact rfl) | ((with_reducible apply zC); exact rfl) | ((with_reducible refine zX ?_ ?_); exact rfl) | ((with_reducible refine zE (And.intro ?_ ?_)); exact kr) | (with_reducible refine zE ?_) | ((with_reducible apply zP); exact dp) | ((with_reducible apply zN); exact dn) | ((with_reducible apply zA); exact da) | ((with_reducible apply zS); exact ds) | ((with_reducible apply zY); exact rfl; exact rfl; exact tf) | ((with_reducible apply zG); exact rfl; exact rfl; exact tf) | ((with_reducible apply zU); exact rfl; exact rfl) | ((with_reducible apply zD); exact rfl; exact rfl) | ((with_reducible apply zB); exact rfl; exact rfl))))
  refine awp_regionL ?_
  ((refine wpl_run (l1 := [_]) rfl ?_ ?_); exact kr; (repeat' (first | (with_reducible first | intro hg | refine mv (by constructor) ?_) | ((with_reducible first | refine zR ?_ ?_ | refine zW mixed ?_ ?_); exact kr) | ((with_reducible apply zK); exact rfl; exact tf) | ((with_reducible apply zCD); exact rfl) | ((with_reducible apply zCN); exact rfl) | ((with_reducible apply zC); exact rfl) | ((with_reducible refine zX ?_ ?_); exact rfl) | ((with_reducible refine zE (And.intro ?_ ?_)); exact kr) | (with_reducible refine zE ?_) | ((with_reducible apply zP); exact dp) | ((with_reducible apply zN); exact dn) | ((with_reducible apply zA); exact da) | ((with_reducible apply zS); exact ds) | ((with_reducible apply zY); exact rfl; exact rfl; exact tf) | ((with_reducible apply zG); exact rfl; exact rfl; exact tf) | ((with_reducible apply zU); exact rfl; exact rfl) | ((with_reducible apply zD); exact rfl; exact rfl) | ((with_reducible apply zB); exact rfl; exact rfl))))
  refine wpl_callX PN rfl wcx rfl (by rfl) (by rfl) (by kernel_rfl) (fun _ _ => rfl) fun y => ?_
  ((refine wpl_run (l1 := [_, _]) rfl ?_ ?_); exact kr; (repeat' (first | (with_reducible first | intro hg | refine mv (by constructor) ?_) | ((with_reducible first | refine zR ?_ ?_ | refine zW mixed ?_ ?_); exact kr) | ((with_reducible apply zK); exact rfl; exact tf) | ((with_reducible apply zCD); exact rfl) | ((with_reducible apply zCN); exact rfl) | ((with_reducible apply zC); exact rfl) | ((with_reducible refine zX ?_ ?_); exact rfl) | ((with_reducible refine zE (And.intro ?_ ?_)); exact kr) | (with_reducible refine zE ?_) | ((with_reducible apply zP); exact dp) | ((with_reducible apply zN); exact dn) | ((with_reducible apply zA); exact da) | ((with_reducible apply zS); exact ds) | ((with_reducible apply zY); exact rfl; exact rfl; exact tf) | ((with_reducible apply zG); exact rfl; exact rfl; exact tf) | ((with_reducible apply zU); exact rfl; exact rfl) | ((with_reducible apply zD); exact rfl; exact rfl) | ((with_reducible apply zB); exact rfl; exact rfl))))
  refine wpl_nil ?_
  obtain ⟨⟨b, cap⟩, hb1, hb2⟩ := y
  have hb1 : c.length ≤ cap := hb1
  have hb2 : cap ≤ maxLen := hb2
  (repeat' (first | (with_reducible first | intro hg | refine mv (by constructor) ?_) | ((with_reducible first | refine zR ?_ ?_ | refine zW mixed ?_ ?_); exact kr) | ((with_reducible apply zK); exact rfl; exact tf) | ((with_reducible apply zCD); exact rfl) | ((with_reducible apply zCN); exact rfl) | ((with_reducible apply zC); exact rfl) | ((with_reducible refine zX ?_ ?_); exact rfl) | ((with_reducible refine zE (And.intro ?_ ?_)); exact kr) | (with_reducible refine zE ?_) | ((with_reducible apply zP); exact dp) | ((with_reducible apply zN); exact dn) | ((with_reducible apply zA); exact da) | ((with_reducible apply zS); exact ds) | ((with_reducible apply zY); exact rfl; exact rfl; exact tf) | ((with_reducible apply zG); exact rfl; exact rfl; exact tf) | ((with_reducible apply zU); exact rfl; exact rfl) | ((with_reducible apply zD); exact rfl; exact rfl) | ((with_reducible apply zB); exact rfl; exact rfl)))
  refine awp_loopL (α := Nat) (fun i => [(3, .ptr 3 0), (4, .ptr 4 0), (5, .ptr 5 0), (9, .ptr 9 0), (21, .ptr 21 0), (22, .d (I i)), (PN, linkP b cap 2)]) (fun i => [(3, ⟨24, [rgV c, I den]⟩), (4, ⟨39, prfC s w⟩), (5, ⟨42, grC x cs⟩), (9, ⟨47, [I (nrm c den s w).num, I ((nrm c den s w).den : Int)]⟩), (21, ⟨24, [linkC b cap c.length, I den]⟩), (PN, ⟨64, rgS (hfL c i)⟩)]) (fun i => i ≤ c.length) (fun i => c.length - i) 0 (Nat.zero_le _) (And.intro rfl (And.intro rfl (And.intro rfl (And.intro rfl (And.intro rfl (And.intro rfl (And.intro rfl trivial))))))) (And.intro rfl (And.intro rfl (And.intro rfl (And.intro rfl (And.intro rfl (And.intro rfl trivial)))))) fun i hi => ?_
  by_cases hil : i < c.length
  · have hq := hfL_get hil
    have hset := hfL_set hil
    have hwl2 := hfL_len c hi
    obtain ⟨⟨r1, r2⟩, ⟨r3, r4⟩, r5⟩ := hrng i hil
    have hv : (half (c.getD i rg0)).2 = (c.getD i rg0).1 + ((c.getD i rg0).2 - (c.getD i rg0).1).tdiv 2 := rfl
    have hz : frC (half (c.getD i rg0)) = (frC ((hfL c i).getD i rg0)).set 1 (I ((c.getD i rg0).1 + ((c.getD i rg0).2 - (c.getD i rg0).1).tdiv 2)) := by rw [hq]; rfl
    have ht : ((c.getD i rg0).2 - (c.getD i rg0).1).tdiv 2 = ((c.getD i rg0).2 - (c.getD i rg0).1) / 2 := Int.tdiv_eq_ediv_of_nonneg (by omega)
    have hqt : IntKind.i64.wrap (((c.getD i rg0).2 - (c.getD i rg0).1).tdiv 2) = ((c.getD i rg0).2 - (c.getD i rg0).1).tdiv 2 := wr (by rw [ht]; omega)
    have hm : c.length - (i + 1) < c.length - i := by omega
    have hb3 : 0 ≤ ((c.getD i rg0).2 - (c.getD i rg0).1).tdiv 2 ∧ ((c.getD i rg0).2 - (c.getD i rg0).1).tdiv 2 ≤ 20 := by rw [ht]; omega
    generalize half (c.getD i rg0) = zz at *
    clear hgr hle wse wc wp wg wcx hrng ht hv hq
    generalize hfL c i = M at *
    (repeat' (first | (with_reducible first | intro hg | refine mv (by constructor) ?_) | ((with_reducible first | refine zR ?_ ?_ | refine zW mixed ?_ ?_); exact kr) | ((with_reducible apply zK); exact rfl; exact tf) | ((with_reducible apply zCD); exact rfl) | ((with_reducible apply zCN); exact rfl) | ((with_reducible apply zC); exact rfl) | ((with_reducible refine zX ?_ ?_); exact rfl) | ((with_reducible refine zE (And.intro ?_ ?_)); exact kr) | (with_reducible refine zE ?_) | ((with_reducible apply zP); (first | exact o_loadLk (L := PN) (sz := 2) rfl rfl rfl rfl (by rfl) (by exact hb1) (by exact hb2) | exact o_indexF rg0 (j := i) (xs := c) frC_len (by decide) rfl rfl hil rfl | exact o_quo (r := ((c.getD i rg0).2 - (c.getD i rg0).1).tdiv 2) rfl rfl (by decide) (by exact hqt) | exact o_indexL (o := i * 2) rfl rfl (by omega) (by omega) (by omega) | exact dp)) | ((with_reducible apply zN); exact dn) | ((with_reducible apply zA); exact da) | ((with_reducible apply zS); (first | exact o_storeF (f := frC) rg0 i 1 zz frC_len rfl rfl rfl rfl rfl (by omega) (by omega) (by decide) (by exact hz) | exact ds)) | ((with_reducible apply zY); exact rfl; exact rfl; exact tf) | ((with_reducible apply zG); exact rfl; exact rfl; exact tf) | ((with_reducible apply zU); exact rfl; exact rfl) | ((with_reducible apply zD); exact rfl; exact rfl) | ((with_reducible apply zB); exact rfl; exact rfl)))
    exact ⟨i + 1, hil, hm, (And.intro rfl (And.intro rfl (And.intro rfl (And.intro rfl (And.intro rfl (And.intro rfl (And.intro rfl trivial))))))), (And.intro rfl (And.intro rfl (And.intro rfl (And.intro rfl (And.intro rfl (And.intro (congrArg (fun l => some (Blk.mk _ (rgS l))) hset) trivial))))))⟩
  obtain rfl : i = c.length := by omega
  rw [hfL_all]
  have hll := rgS_len (halfL c)
  have e1 : DV.slice c.length ((rgS (halfL c)).take (c.length * 2)) = rgV (halfL c) := by
    show _ = DV.slice (halfL c).length (rgS (halfL c))
    rw [List.take_of_length_le (by omega), hHl]
  refine awp_turn (turns_unlink 21 0 PN (by rfl) (by rfl) (by rfl) (by rfl) (by rfl) (by decide) hb1 hb2) fun _ => ?_
  refine awp_cut [(3, .ptr 3 0), (4, .ptr 4 0), (5, .ptr 5 0), (9, .ptr 9 0), (21, .ptr 21 0), (22, .d (I c.length))] [(3, ⟨24, [rgV c, I den]⟩), (4, ⟨39, prfC s w⟩), (5, ⟨42, grC x cs⟩), (9, ⟨47, [I (nrm c den s w).num, I ((nrm c den s w).den : Int)]⟩), (21, ⟨24, [rgV (halfL c), I den]⟩)] (And.intro rfl (And.intro rfl (And.intro rfl (And.intro rfl (And.intro rfl (And.intro rfl trivial)))))) (And.intro rfl (And.intro rfl (And.intro rfl (And.intro rfl (And.intro (congrArg (fun p : DV => some (Blk.mk 24 [p, I den])) e1) trivial))))) ?_
  clear hrng wcx e1 hll hHl hb1 hb2
  have hmI : (cs.length : Int).tmod (s : Int) = ((cs.length % s : Nat) : Int) := by
    rw [Int.tmod_eq_emod_of_nonneg (by omega), ← Int.natCast_emod]
  have hbr : ∃ f2 e2, AC Tryz.prog 18 [loV (halfL c) den, .agg (prfC s w)] (.tuple [F2 f2, I e2]) ∧ ((e2 = 8) ∨ (e2 = 0 ∧ AC Tryz.prog 20 [F2 f2] (B true) ∧ AC Tryz.prog 21 [F2 f2] (B true) ∧ ∃ u : Int, u ≤ 0 ∧ AC Tryz.prog 29 [F2 f2, .agg [I (nrm c den s w).num, I ((nrm c den s w).den : Int)]] (I u))) := by
    cases hs2 : smQ (nrm (halfL c) den s w)
    · have e : frQ (nrm (halfL c) den s w) = ((0, 0), 8) := by unfold frQ; rw [hs2]; rfl
      rw [e] at wse
      exact ⟨_, _, wse, .inl rfl⟩
    · have e : frQ (nrm (halfL c) den s w) = (qF (nrm (halfL c) den s w), 0) := by unfold frQ; rw [hs2]; rfl
      rw [e] at wse
      exact ⟨_, _, wse, .inr ⟨rfl, bisLow_q _ hs2, bisSmall_q _ hs2, tcmp_le hs2 hsm hle⟩⟩
  clear wse hle
  obtain ⟨f2, e2, wse, hbr⟩ := hbr
  generalize nrm c den s w = N at *
  by_cases hmod : cs.length % s = 0
  rotate_left
  · rcases hbr with rfl | ⟨rfl, wlo, wsmall, u, hu, wcm⟩
    · clear hgr
      (repeat' (first | (with_reducible first | intro hg | refine mv (by constructor) ?_) | ((with_reducible first | refine zR ?_ ?_ | refine zW mixed ?_ ?_); exact kr) | ((with_reducible apply zK); exact rfl; exact tf) | ((with_reducible apply zCD); exact rfl) | ((with_reducible apply zCN); exact rfl) | ((with_reducible apply zC); exact rfl) | ((with_reducible refine zX ?_ ?_); exact rfl) | ((with_reducible refine zE (And.intro ?_ ?_)); exact kr) | (with_reducible refine zE ?_) | ((with_reducible apply zP); (first | exact o_rem (r := ((cs.length % s : Nat) : Int)) rfl rfl (by omega) (by exact hmI) | exact dp | exact oc rfl (wse) | exact oc rfl (wp))) | ((with_reducible apply zN); exact dn) | ((with_reducible apply zA); exact da) | ((with_reducible apply zS); exact ds) | ((with_reducible apply zY); exact rfl; exact rfl; exact tf) | ((with_reducible apply zG); exact rfl; exact rfl; exact tf) | ((with_reducible apply zU); exact rfl; exact rfl) | ((with_reducible apply zD); exact rfl; exact rfl) | ((with_reducible apply zB); exact rfl; exact rfl)))
      ((with_reducible first | apply q_retR | apply q_retN); exact rl)
      rfl
    · clear hgr
      (repeat' (first | (with_reducible first | intro hg | refine mv (by constructor) ?_) | ((with_reducible first | refine zR ?_ ?_ | refine zW mixed ?_ ?_); exact kr) | ((with_reducible apply zK); exact rfl; exact tf) | ((with_reducible apply zCD); exact rfl) | ((with_reducible apply zCN); exact rfl) | ((with_reducible apply zC); exact rfl) | ((with_reducible refine zX ?_ ?_); exact rfl) | ((with_reducible refine zE (And.intro ?_ ?_)); exact kr) | (with_reducible refine zE ?_) | ((with_reducible apply zP); (first | exact o_rem (r := ((cs.length % s : Nat) : Int)) rfl rfl (by omega) (by exact hmI) | exact dp | exact oc rfl (wse) | exact oc rfl (wp) | exact oc rfl (wlo) | exact oc rfl (wsmall) | exact oc rfl (wcm))) | ((with_reducible apply zN); exact dn) | ((with_reducible apply zA); exact da) | ((with_reducible apply zS); exact ds) | ((with_reducible apply zY); exact rfl; exact rfl; exact tf) | ((with_reducible apply zG); exact rfl; exact rfl; exact tf) | ((with_reducible apply zU); exact rfl; exact rfl) | ((with_reducible apply zD); exact rfl; exact rfl) | ((with_reducible apply zB); exact rfl; exact rfl)))
      ((with_reducible first | apply q_retR | apply q_retN); exact rl)
      rfl
  obtain ⟨f, e, he, wgr⟩ := hgr hmod
  rcases he with rfl | rfl
  all_goals
    rcases hbr with rfl | ⟨rfl, wlo, wsmall, u, hu, wcm⟩
    · (repeat' (first | (with_reducible first | intro hg | refine mv (by constructor) ?_) | ((with_reducible first | refine zR ?_ ?_ | refine zW mixed ?_ ?_); exact kr) | ((with_reducible apply zK); exact rfl; exact tf) | ((with_reducible apply zCD); exact rfl) | ((with_reducible apply zCN); exact rfl) | ((with_reducible apply zC); exact rfl) | ((with_reducible refine zX ?_ ?_); exact rfl) | ((with_reducible refine zE (And.intro ?_ ?_)); exact kr) | (with_reducible refine zE ?_) | ((with_reducible apply zP); (first | exact o_rem (r := ((cs.length % s : Nat) : Int)) rfl rfl (by omega) (by exact hmI) | exact dp | exact oc rfl (wse) | exact oc rfl (wp) | exact oc rfl (wc) | exact oc rfl (wg) | exact oc rfl (wgr))) | ((with_reducible apply zN); exact dn) | ((with_reducible apply zA); exact da) | ((with_reducible apply zS); exact ds) | ((with_reducible apply zY); exact rfl; exact rfl; exact tf) | ((with_reducible apply zG); exact rfl; exact rfl; exact tf) | ((with_reducible apply zU); exact rfl; exact rfl) | ((with_reducible apply zD); exact rfl; exact rfl) | ((with_reducible apply zB); exact rfl; exact rfl)))
      ((with_reducible first | apply q_retR | apply q_retN); exact rl)
      rfl
    · (repeat' (first | (with_reducible first | intro hg | refine mv (by constructor) ?_) | ((with_reducible first | refine zR ?_ ?_ | refine zW mixed ?_ ?_); exact kr) | ((with_reducible apply zK); exact rfl; exact tf) | ((with_reducible apply zCD); exact rfl) | ((with_reducible apply zCN); exact rfl) | ((with_reducible apply zC); exact rfl) | ((with_reducible refine zX ?_ ?_); exact rfl) | ((with_reducible refine zE (And.intro ?_ ?_)); exact kr) | (with_reducible refine zE ?_) | ((with_reducible apply zP); (first | exact o_rem (r := ((cs.length % s : Nat) : Int)) rfl rfl (by omega) (by exact hmI) | exact dp | exact oc rfl (wse) | exact oc rfl (wp) | exact oc rfl (wc) | exact oc rfl (wg) | exact oc rfl (wgr) | exact oc rfl (wlo) | exact oc rfl (wsmall) | exact oc rfl (wcm))) | ((with_reducible apply zN); exact dn) | ((with_reducible apply zA); exact da) | ((with_reducible apply zS); exact ds) | ((with_reducible apply zY); exact rfl; exact rfl; exact tf) | ((with_reducible apply zG); exact rfl; exact rfl; exact tf) | ((with_reducible apply zU); exact rfl; exact rfl) | ((with_reducible apply zD); exact rfl; exact rfl) | ((with_reducible apply zB); exact rfl; exact rfl)))
      ((with_reducible first | apply q_retR | apply q_retN); exact rl)
      rfl

end Go.Proofs.YtfcfmpdpjmbcnaaGreatDoor
