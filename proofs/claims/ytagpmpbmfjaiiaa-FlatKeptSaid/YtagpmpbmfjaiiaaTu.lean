/- Tolerances: the first settings and their number: walks. -/
import Derived.Test.YtagpmpbmfjaiiaaTe
import Derived.Test.YtagpmpbmfjaiiaaPn
set_option linter.unusedVariables false
set_option linter.unusedSimpArgs false
namespace Go.Proofs.Ytagpmpbmfjaiiaa
open Go.RowKit
set_option maxRecDepth 20000
set_option maxHeartbeats 8000000

theorem find_at {p : List Int → Bool} : ∀ {L : List (List Int)} {k : Nat}, k < L.length → (∀ i, i < k → p (L.getD i []) = false) → p (L.getD k []) = true → L.find? p = some (L.getD k [])
  | [], k, hk, _, _ => by simp at hk
  | l :: L, 0, _, _, h => by
    have h : p l = true := h
    rw [List.find?_cons_of_pos h]; rfl
  | l :: L, k + 1, hk, h1, h => by
    have h0 : p l = false := h1 0 (by omega)
    rw [List.find?_cons_of_neg (by rw [h0]; decide)]
    exact find_at (L := L) (k := k) (by simpa using hk) (fun i hi => h1 (i + 1) (by omega)) h
theorem find_none {p : List Int → Bool} {L : List (List Int)} (h : ∀ i, i < L.length → p (L.getD i []) = false) : L.find? p = none := by
  rw [List.find?_eq_none]
  intro x hx
  obtain ⟨i, hi, rfl⟩ := List.mem_iff_getElem.1 hx
  have := h i hi
  rw [List.getD_eq_getElem?_getD, List.getElem?_eq_getElem hi] at this
  have this : p L[i] = false := this
  rw [this]; decide
/-- Whether settings keep a tolerance. -/
def keepB (T : List Int) (A : List Act3) (m : Int) (l : List Int) : Bool := decide (maxP T A l ≤ m)
theorem firstWithin_A (T : List Int) (A : List Act3) (L : List (List Int)) (m : Int) (h : RulOk T A) (hL : SetsOk A L) (he : rulE T A = (0, 0)) (hm : inR m 0 100000 = true) (r : DV)
    (hr1 : ∀ k, k < L.length → (∀ i, i < k → keepB T A m (L.getD i []) = false) → keepB T A m (L.getD k []) = true → r = .tuple [isl (L.getD k []), I 0]) (hr2 : (∀ i, i < L.length → keepB T A m (L.getD i []) = false) → r = .tuple [nilV, I 12]) :
    AC Try.prog 10 [rulV T A, I m] r := by
  have ht9 := h.t9
  have hlo : LenOk T A := ⟨by omega, by have := h.a3; omega, fun a ha => by have := (h.b a ha).2.2.2.1; omega⟩
  have hop := openTolerance_A T A m hlo
  rw [he, hm] at hop
  refine ac_body Try.func10 rfl (by kernel_rfl) fun w0 ok => ?_; show AWp _ (ctx0 w0 ok _) _ (ARet _ _ _) (entry _)
  (repeat' (first | (with_reducible first | intro hg | refine mv (by constructor) ?_) | ((with_reducible first | refine zR ?_ ?_ | refine zW mixed ?_ ?_); exact kr) | ((with_reducible apply zK); exact rfl; exact tf) | ((with_reducible apply zCD); exact rfl) | ((with_reducible apply zCN); exact rfl) | ((with_reducible apply zC); exact rfl) | ((with_reducible refine zX ?_ ?_); exact rfl) | ((with_reducible refine zE (And.intro ?_ ?_)); exact kr) | (with_reducible refine zE ?_) | ((with_reducible apply zP); (first | exact o_makeFuncB rfl rfl | exact dp | exact oc rfl (hop))) | ((with_reducible apply zN); exact dn) | ((with_reducible apply zA); exact da) | ((with_reducible apply zS); exact ds) | ((with_reducible apply zY); exact rfl; exact rfl; exact tf) | ((with_reducible apply zG); exact rfl; exact rfl; exact tf) | ((with_reducible apply zU); exact rfl; exact rfl) | ((with_reducible apply zD); exact rfl; exact rfl) | ((with_reducible apply zB); exact rfl; exact rfl)))
  refine awp_rangeFunc (psl := [20]) (bs := [rulV T A]) (caps := []) (fin := true) (xs := yas A L) (fun k (_ : Unit) => ⟨frL [(3, .ptr 3 0), (4, .ptr 4 0), (5, .ptr 5 0), (6, .ptr 6 0)], memL [(3, ⟨3, [I m]⟩), (4, ⟨22, [nilV]⟩), (5, ⟨30, [I 0]⟩), (6, ⟨56, rulC T A⟩)]⟩)
    (fun k _ => ∀ i, i < k → keepB T A m (L.getD i []) = false) () (EntI.eq (P := Try.prog) (f := 21)) (.fn rfl) (settings_A T A L hL.chain h.a0 h.acts) (fun i hi => by omega) (le_of (And.intro rfl (And.intro rfl (And.intro rfl (And.intro rfl trivial)))) (And.intro rfl (And.intro rfl (And.intro rfl (And.intro rfl trivial))))) (by decide) (fun d hd => by obtain ⟨l, _, rfl⟩ := List.mem_map.1 hd; rfl) (fun k y d hI hd W ok' rd ex gv => ?_) (by simp) (fun _ y hI => ?_)
  · obtain ⟨hk, rfl⟩ := yas_at hd
    have hmem : L.getD k [] ∈ L := by rw [List.getD_eq_getElem?_getD, List.getElem?_eq_getElem hk]; exact List.getElem_mem hk
    have hso := hL.ok _ hmem
    have hr1 := hr1 k hk hI
    have hI2 : keepB T A m (L.getD k []) = false → ∀ i, i < k + 1 → keepB T A m (L.getD i []) = false := fun h0 i hi => by
      by_cases e : i = k
      · rw [e]; exact h0
      · exact hI i (by omega)
    generalize L.getD k [] = N at *
    have hmx := maximum_A T A N h hso
    have hmb := maxTo_bnd h hso T.length (Nat.le_refl _)
    have hNl := hso.1
    have ha0 := h.a0
    have ha3 := h.a3
    have hcl := clone_A N (by omega) (fun e => by rw [e] at hNl; simp at hNl; omega)
    rw [hNl] at hcl
    rw [show (isl N : DV) = .slice A.length (ivs N) by rw [← hNl]] at hmx hcl
    refine awp_cut [(20, .lsl YN 0 A.length 1), (1999999, .lsl YN 0 A.length 1), (3, .ptr 3 0), (4, .ptr 4 0), (5, .ptr 5 0), (6, .ptr 6 0), (1000003, .ptr 3 0), (1000004, .ptr 4 0), (1000005, .ptr 5 0), (1000006, .ptr 6 0)] [(3, ⟨3, [I m]⟩), (4, ⟨22, [nilV]⟩), (5, ⟨30, [I 0]⟩), (6, ⟨56, rulC T A⟩), (YN, ⟨3, ivs N⟩)] (And.intro rfl (And.intro rfl (And.intro rfl (And.intro rfl (And.intro rfl (And.intro rfl (And.intro rfl (And.intro rfl (And.intro rfl (And.intro rfl trivial)))))))))) (And.intro rfl (And.intro rfl (And.intro rfl (And.intro rfl (And.intro rfl trivial))))) ?_
    have hv : ((ivs N).drop 0).take (A.length * 1) = ivs N := by rw [List.drop_zero, List.take_of_length_le (by simp [ivs]; omega)]
    replace hmx : AC Try.prog 22 [rulV T A, .slice A.length (((ivs N).drop 0).take (A.length * 1))] (I (maxP T A N)) := by rw [hv]; exact hmx
    replace hcl : ACo Try.prog 23 [.slice A.length (((ivs N).drop 0).take (A.length * 1))] 3 A.length 1 (ivs N) := by rw [hv]; exact hcl
    have hNe : N ≠ [] := fun e => by rw [e] at hNl; simp at hNl; omega
    (repeat' (first | (with_reducible first | intro hg | refine mv (by constructor) ?_) | ((with_reducible first | refine zR ?_ ?_ | refine zW mixed ?_ ?_); exact kr) | ((with_reducible apply zK); exact rfl; exact tf) | ((with_reducible apply zCD); exact rfl) | ((with_reducible apply zCN); exact rfl) | ((with_reducible apply zC); exact rfl) | ((with_reducible refine zX ?_ ?_); exact rfl) | ((with_reducible refine zE (And.intro ?_ ?_)); exact kr) | (with_reducible refine zE ?_) | ((with_reducible apply zP); exact dp) | ((with_reducible apply zN); exact dn) | ((with_reducible apply zA); exact da) | ((with_reducible apply zS); exact ds) | ((with_reducible apply zY); exact rfl; exact rfl; exact tf) | ((with_reducible apply zG); exact rfl; exact rfl; exact tf) | ((with_reducible apply zU); exact rfl; exact rfl) | ((with_reducible apply zD); exact rfl; exact rfl) | ((with_reducible apply zB); exact rfl; exact rfl)))
    refine ⟨rfl, fun W' => ?_⟩
    by_cases hlt : maxP T A N ≤ m
    · have hr4 : r = .tuple [.slice A.length (ivs N), I 0] := by
        rw [hr1 (decide_eq_true hlt)]
        show DV.tuple [DV.slice N.length (ivs N), I 0] = _
        rw [hNl]
      (repeat' (first | (with_reducible first | intro hg | refine mv (by constructor) ?_) | ((with_reducible first | refine zR ?_ ?_ | refine zW mixed ?_ ?_); exact kr) | ((with_reducible apply zK); exact rfl; exact tf) | ((with_reducible apply zCD); exact rfl) | ((with_reducible apply zCN); exact rfl) | ((with_reducible apply zC); exact rfl) | ((with_reducible refine zX ?_ ?_); exact rfl) | ((with_reducible refine zE (And.intro ?_ ?_)); exact kr) | (with_reducible refine zE ?_) | ((with_reducible apply zP); (first | exact o_callF1 rfl hcl (ivs_flat N) | exact dp | exact oc rfl (hmx))) | ((with_reducible apply zN); exact dn) | ((with_reducible apply zA); exact da) | ((with_reducible apply zS); exact ds) | ((with_reducible apply zY); exact rfl; exact rfl; exact tf) | ((with_reducible apply zG); exact rfl; exact rfl; exact tf) | ((with_reducible apply zU); exact rfl; exact rfl) | ((with_reducible apply zD); exact rfl; exact rfl) | ((with_reducible apply zB); exact rfl; exact rfl)))
      refine ⟨⟨rfl, rfl⟩, ?_⟩
      show ARet _ _ _ .ret (uns _)
      ((with_reducible first | apply q_retR | apply q_retN); exact rl)
      exact hr4
    · have hn := hI2 (decide_eq_false hlt)
      (repeat' (first | (with_reducible first | intro hg | refine mv (by constructor) ?_) | ((with_reducible first | refine zR ?_ ?_ | refine zW mixed ?_ ?_); exact kr) | ((with_reducible apply zK); exact rfl; exact tf) | ((with_reducible apply zCD); exact rfl) | ((with_reducible apply zCN); exact rfl) | ((with_reducible apply zC); exact rfl) | ((with_reducible refine zX ?_ ?_); exact rfl) | ((with_reducible refine zE (And.intro ?_ ?_)); exact kr) | (with_reducible refine zE ?_) | ((with_reducible apply zP); (first | exact o_callF1 rfl hcl (ivs_flat N) | exact dp | exact oc rfl (hmx))) | ((with_reducible apply zN); exact dn) | ((with_reducible apply zA); exact da) | ((with_reducible apply zS); exact ds) | ((with_reducible apply zY); exact rfl; exact rfl; exact tf) | ((with_reducible apply zG); exact rfl; exact rfl; exact tf) | ((with_reducible apply zU); exact rfl; exact rfl) | ((with_reducible apply zD); exact rfl; exact rfl) | ((with_reducible apply zB); exact rfl; exact rfl)))
      exact ⟨⟨rfl, rfl⟩, (), hn, le_of (And.intro rfl (And.intro rfl (And.intro rfl (And.intro rfl trivial)))) (And.intro rfl (And.intro rfl (And.intro rfl (And.intro rfl trivial))))⟩
  · have hyl : (yas A L).length = L.length := by simp [yas]
    rw [hyl] at hI
    have hr3 := hr2 hI
    (repeat' (first | (with_reducible first | intro hg | refine mv (by constructor) ?_) | ((with_reducible first | refine zR ?_ ?_ | refine zW mixed ?_ ?_); exact kr) | ((with_reducible apply zK); exact rfl; exact tf) | ((with_reducible apply zCD); exact rfl) | ((with_reducible apply zCN); exact rfl) | ((with_reducible apply zC); exact rfl) | ((with_reducible refine zX ?_ ?_); exact rfl) | ((with_reducible refine zE (And.intro ?_ ?_)); exact kr) | (with_reducible refine zE ?_) | ((with_reducible apply zP); exact dp) | ((with_reducible apply zN); exact dn) | ((with_reducible apply zA); exact da) | ((with_reducible apply zS); exact ds) | ((with_reducible apply zY); exact rfl; exact rfl; exact tf) | ((with_reducible apply zG); exact rfl; exact rfl; exact tf) | ((with_reducible apply zU); exact rfl; exact rfl) | ((with_reducible apply zD); exact rfl; exact rfl) | ((with_reducible apply zB); exact rfl; exact rfl)))
    ((with_reducible first | apply q_retR | apply q_retN); exact rl)
    exact hr3
def cntK (p : List Int → Bool) (L : List (List Int)) : Nat → Nat
  | 0 => 0
  | k + 1 => cntK p L k + bif p (L.getD k []) then 1 else 0
theorem cntK_eq (p : List Int → Bool) (L : List (List Int)) : ∀ k, k ≤ L.length → cntK p L k = ((L.take k).filter p).length
  | 0, _ => rfl
  | k + 1, hk => by
    have hk' : k < L.length := hk
    show cntK p L k + (bif p (L.getD k []) then 1 else 0) = _
    rw [cntK_eq p L k (by omega), List.take_add_one, List.filter_append, List.length_append, List.getD_eq_getElem?_getD, List.getElem?_eq_getElem hk']
    cases h : p L[k]
    · simp [h]
    · simp [h]
theorem cntK_le (p : List Int → Bool) (L : List (List Int)) : ∀ k, cntK p L k ≤ k
  | 0 => Nat.le_refl _
  | k + 1 => by
    have := cntK_le p L k
    show cntK p L k + (bif p (L.getD k []) then 1 else 0) ≤ _
    cases p (L.getD k [])
    · show cntK p L k + 0 ≤ _; omega
    · show cntK p L k + 1 ≤ _; omega
end Go.Proofs.Ytagpmpbmfjaiiaa
