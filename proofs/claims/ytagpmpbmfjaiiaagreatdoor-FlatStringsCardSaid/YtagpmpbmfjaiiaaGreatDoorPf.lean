/- The best settings. -/
import Derived.Test.YtagpmpbmfjaiiaaGreatDoorPe
set_option linter.unusedVariables false
set_option linter.unusedSimpArgs false
namespace Go.Proofs.YtagpmpbmfjaiiaaGreatDoor
open Go.RowKit
set_option maxRecDepth 20000

def bst (f : List Int → Int) : Option (List Int × Int) → List Int → Option (List Int × Int)
  | none, l => some (l, f l)
  | some (b, n), l => bif decide (f l < n) then some (l, f l) else some (b, n)
def bstK (f : List Int → Int) (L : List (List Int)) (k : Nat) : Option (List Int × Int) := (L.take k).foldl (bst f) none
theorem bstK_succ (f : List Int → Int) {L : List (List Int)} {k : Nat} {N : List Int} (hk : k < L.length) (h : L.getD k [] = N) : bstK f L (k + 1) = bst f (bstK f L k) N := by
  unfold bstK
  rw [List.getD_eq_getElem?_getD, List.getElem?_eq_getElem hk] at h
  rw [List.take_add_one, List.getElem?_eq_getElem hk, List.foldl_append, show L[k] = N from h]
  rfl
def bestC : Option (List Int × Int) → DV
  | none => nilV
  | some (b, _) => isl b
def leastC : Option (List Int × Int) → Int
  | none => 0
  | some (_, n) => n
theorem yas_at {A : List Act3} {L : List (List Int)} {k : Nat} {d : YA} (h : (yas A L)[k]? = some d) : k < L.length ∧ d = .sl 3 (ivs (L.getD k [])) A.length 1 := by
  rw [List.getElem?_map] at h
  obtain ⟨l, h1, h2⟩ := Option.map_eq_some_iff.1 h
  obtain ⟨h3, h4⟩ := List.getElem?_eq_some_iff.1 h1
  refine ⟨h3, ?_⟩
  rw [← h2, List.getD_eq_getElem?_getD, h1]; rfl
theorem RulOk.acts {T : List Int} {A : List Act3} (h : RulOk T A) : ActsOk A := ⟨by have := h.a3; omega, fun a ha => by obtain ⟨h1, h2, _⟩ := h.b a ha; omega⟩
/-- All settings of valid rules. -/
structure SetsOk (A : List Act3) (L : List (List Int)) : Prop where
  chain : ChainS A L
  ok : ∀ l ∈ L, SetOk A l

theorem best_A (T : List Int) (A : List Act3) (L : List (List Int)) (h : RulOk T A) (hL : SetsOk A L) (he : rulE T A = (0, 0)) :
    AC Tryz.prog 40 [rulV T A] (.tuple [bestC (bstK (maxP T A) L L.length), I (leastC (bstK (maxP T A) L L.length)), I 0]) := by
  have hlo : LenOk T A := ⟨by have := h.t9; omega, by have := h.a3; omega, fun a ha => by have := (h.b a ha).2.2.2.1; have := h.t9; omega⟩
  have hop := open_A T A hlo
  rw [he] at hop
  refine ac_body Tryz.func40 rfl (by kernel_rfl) fun w0 ok => ?_; show AWp _ (ctx0 w0 ok _) _ (ARet _ _ _) (entry _)
  (repeat' (first | (with_reducible first | intro hg | refine mv (by constructor) ?_) | ((with_reducible first | refine zR ?_ ?_ | refine zW mixed ?_ ?_); exact kr) | ((with_reducible apply zK); exact rfl; exact tf) | ((with_reducible apply zCD); exact rfl) | ((with_reducible apply zCN); exact rfl) | ((with_reducible apply zC); exact rfl) | ((with_reducible refine zX ?_ ?_); exact rfl) | ((with_reducible refine zE (And.intro ?_ ?_)); exact kr) | (with_reducible refine zE ?_) | ((with_reducible apply zP); (first | exact o_makeFuncB rfl rfl | exact dp | exact oc rfl (hop))) | ((with_reducible apply zN); exact dn) | ((with_reducible apply zA); exact da) | ((with_reducible apply zS); exact ds) | ((with_reducible apply zY); exact rfl; exact rfl; exact tf) | ((with_reducible apply zG); exact rfl; exact rfl; exact tf) | ((with_reducible apply zU); exact rfl; exact rfl) | ((with_reducible apply zD); exact rfl; exact rfl) | ((with_reducible apply zB); exact rfl; exact rfl)))
  refine awp_rangeFunc (psl := [21]) (bs := [rulV T A]) (caps := []) (fin := true) (xs := yas A L) (fun k (y : Option (List Int × Int)) => ⟨frL [(5, .ptr 5 0), (7, .ptr 7 0), (8, .ptr 8 0)], memL [(5, ⟨116, rulC T A⟩), (7, ⟨22, [bestC y]⟩), (8, ⟨3, [I (leastC y)]⟩)]⟩)
    (fun k y => y = bstK (maxP T A) L k ∧ ∀ b n, y = some (b, n) → b ≠ []) none (EntI.eq (P := Tryz.prog) (f := 75)) (.fn rfl) (settings_A T A L hL.chain h.a0 h.acts) ⟨rfl, fun b n e => by cases e⟩ (le_of (And.intro rfl (And.intro rfl (And.intro rfl trivial))) (And.intro rfl (And.intro rfl (And.intro rfl trivial)))) (by decide) (fun d hd => by obtain ⟨l, _, rfl⟩ := List.mem_map.1 hd; rfl) (fun k y d ⟨hI, hI2⟩ hd W ok' rd ex gv => ?_) (by simp) (fun _ y ⟨hI, hI2⟩ => ?_)
  · obtain ⟨hk, rfl⟩ := yas_at hd
    have hmem : L.getD k [] ∈ L := by rw [List.getD_eq_getElem?_getD, List.getElem?_eq_getElem hk]; exact List.getElem_mem hk
    have hso := hL.ok _ hmem
    have hsucc := bstK_succ (maxP T A) hk rfl
    generalize L.getD k [] = N at *
    have hmx := maximum_A T A N h hso
    have hmb := maxTo_bnd h hso T.length (Nat.le_refl _)
    have hNl := hso.1
    have ha0 := h.a0
    have ha3 := h.a3
    have hcl := clone_A N (by omega) (fun e => by rw [e] at hNl; simp at hNl; omega)
    rw [hNl] at hcl
    rw [show (isl N : DV) = .slice A.length (ivs N) by rw [← hNl]] at hmx hcl
    refine awp_cut [(21, .lsl YN 0 A.length 1), (1999999, .lsl YN 0 A.length 1), (5, .ptr 5 0), (7, .ptr 7 0), (8, .ptr 8 0), (1000005, .ptr 5 0), (1000007, .ptr 7 0), (1000008, .ptr 8 0)] [(5, ⟨116, rulC T A⟩), (7, ⟨22, [bestC y]⟩), (8, ⟨3, [I (leastC y)]⟩), (YN, ⟨3, ivs N⟩)] (And.intro rfl (And.intro rfl (And.intro rfl (And.intro rfl (And.intro rfl (And.intro rfl (And.intro rfl (And.intro rfl trivial)))))))) (And.intro rfl (And.intro rfl (And.intro rfl (And.intro rfl trivial)))) ?_
    have hv : ((ivs N).drop 0).take (A.length * 1) = ivs N := by rw [List.drop_zero, List.take_of_length_le (by simp [ivs]; omega)]
    replace hmx : AC Tryz.prog 76 [rulV T A, .slice A.length (((ivs N).drop 0).take (A.length * 1))] (I (maxP T A N)) := by rw [hv]; exact hmx
    replace hcl : ACo Tryz.prog 77 [.slice A.length (((ivs N).drop 0).take (A.length * 1))] 3 A.length 1 (ivs N) := by rw [hv]; exact hcl
    have hNe : N ≠ [] := fun e => by rw [e] at hNl; simp at hNl; omega
    (repeat' (first | (with_reducible first | intro hg | refine mv (by constructor) ?_) | ((with_reducible first | refine zR ?_ ?_ | refine zW mixed ?_ ?_); exact kr) | ((with_reducible apply zK); exact rfl; exact tf) | ((with_reducible apply zCD); exact rfl) | ((with_reducible apply zCN); exact rfl) | ((with_reducible apply zC); exact rfl) | ((with_reducible refine zX ?_ ?_); exact rfl) | ((with_reducible refine zE (And.intro ?_ ?_)); exact kr) | (with_reducible refine zE ?_) | ((with_reducible apply zP); exact dp) | ((with_reducible apply zN); exact dn) | ((with_reducible apply zA); exact da) | ((with_reducible apply zS); exact ds) | ((with_reducible apply zY); exact rfl; exact rfl; exact tf) | ((with_reducible apply zG); exact rfl; exact rfl; exact tf) | ((with_reducible apply zU); exact rfl; exact rfl) | ((with_reducible apply zD); exact rfl; exact rfl) | ((with_reducible apply zB); exact rfl; exact rfl)))
    refine ⟨rfl, fun W' => ?_⟩
    rw [← hI] at hsucc
    have he7 : some (Blk.mk 22 [DV.slice A.length (ivs N)]) = some (Blk.mk 22 [isl N]) := congrArg (fun n => some (Blk.mk _ [DV.slice n (ivs N)])) hNl.symm
    rcases y with _ | ⟨b, n⟩
    · (repeat' (first | (with_reducible first | intro hg | refine mv (by constructor) ?_) | ((with_reducible first | refine zR ?_ ?_ | refine zW mixed ?_ ?_); exact kr) | ((with_reducible apply zK); exact rfl; exact tf) | ((with_reducible apply zCD); exact rfl) | ((with_reducible apply zCN); exact rfl) | ((with_reducible apply zC); exact rfl) | ((with_reducible refine zX ?_ ?_); exact rfl) | ((with_reducible refine zE (And.intro ?_ ?_)); exact kr) | (with_reducible refine zE ?_) | ((with_reducible apply zP); (first | exact o_callF1 rfl hcl (ivs_flat N) | exact dp | exact oc rfl (hmx))) | ((with_reducible apply zN); exact dn) | ((with_reducible apply zA); exact da) | ((with_reducible apply zS); exact ds) | ((with_reducible apply zY); exact rfl; exact rfl; exact tf) | ((with_reducible apply zG); exact rfl; exact rfl; exact tf) | ((with_reducible apply zU); exact rfl; exact rfl) | ((with_reducible apply zD); exact rfl; exact rfl) | ((with_reducible apply zB); exact rfl; exact rfl)))
      exact ⟨⟨rfl, rfl⟩, some (N, maxP T A N), ⟨hsucc.symm, fun b n e => by cases e; exact hNe⟩, le_of (And.intro rfl (And.intro rfl (And.intro rfl trivial))) (And.intro rfl (And.intro (he7) (And.intro (rfl) trivial)))⟩
    · have hbe := ivs_ne (hI2 b n rfl)
      by_cases hlt : maxP T A N < n
      · have hb : bst (maxP T A) (some (b, n)) N = some (N, maxP T A N) := by show (bif decide (maxP T A N < n) then _ else _) = _; rw [decide_eq_true hlt]; rfl
        (repeat' (first | (with_reducible first | intro hg | refine mv (by constructor) ?_) | ((with_reducible first | refine zR ?_ ?_ | refine zW mixed ?_ ?_); exact kr) | ((with_reducible apply zK); exact rfl; exact tf) | ((with_reducible apply zCD); exact rfl) | ((with_reducible apply zCN); exact rfl) | ((with_reducible apply zC); exact rfl) | ((with_reducible refine zX ?_ ?_); exact rfl) | ((with_reducible refine zE (And.intro ?_ ?_)); exact kr) | (with_reducible refine zE ?_) | ((with_reducible apply zP); (first | exact o_callF1 rfl hcl (ivs_flat N) | exact dp | exact oc rfl (hmx))) | ((with_reducible apply zN); exact dn) | ((with_reducible apply zA); exact da) | ((with_reducible apply zS); exact ds) | ((with_reducible apply zY); exact rfl; exact rfl; exact tf) | ((with_reducible apply zG); exact rfl; exact rfl; exact tf) | ((with_reducible apply zU); exact rfl; exact rfl) | ((with_reducible apply zD); exact rfl; exact rfl) | ((with_reducible apply zB); exact rfl; exact rfl)))
        exact ⟨⟨rfl, rfl⟩, some (N, maxP T A N), ⟨(hsucc.trans hb).symm, fun b n e => by cases e; exact hNe⟩, le_of (And.intro rfl (And.intro rfl (And.intro rfl trivial))) (And.intro rfl (And.intro (he7) (And.intro (rfl) trivial)))⟩
      · have hb : bst (maxP T A) (some (b, n)) N = some (b, n) := by show (bif decide (maxP T A N < n) then _ else _) = _; rw [decide_eq_false hlt]; rfl
        (repeat' (first | (with_reducible first | intro hg | refine mv (by constructor) ?_) | ((with_reducible first | refine zR ?_ ?_ | refine zW mixed ?_ ?_); exact kr) | ((with_reducible apply zK); exact rfl; exact tf) | ((with_reducible apply zCD); exact rfl) | ((with_reducible apply zCN); exact rfl) | ((with_reducible apply zC); exact rfl) | ((with_reducible refine zX ?_ ?_); exact rfl) | ((with_reducible refine zE (And.intro ?_ ?_)); exact kr) | (with_reducible refine zE ?_) | ((with_reducible apply zP); (first | exact o_callF1 rfl hcl (ivs_flat N) | exact dp | exact oc rfl (hmx))) | ((with_reducible apply zN); exact dn) | ((with_reducible apply zA); exact da) | ((with_reducible apply zS); exact ds) | ((with_reducible apply zY); exact rfl; exact rfl; exact tf) | ((with_reducible apply zG); exact rfl; exact rfl; exact tf) | ((with_reducible apply zU); exact rfl; exact rfl) | ((with_reducible apply zD); exact rfl; exact rfl) | ((with_reducible apply zB); exact rfl; exact rfl)))
        exact ⟨⟨rfl, rfl⟩, some (b, n), ⟨(hsucc.trans hb).symm, hI2⟩, le_of (And.intro rfl (And.intro rfl (And.intro rfl trivial))) (And.intro rfl (And.intro rfl (And.intro rfl trivial)))⟩
  · (repeat' (first | (with_reducible first | intro hg | refine mv (by constructor) ?_) | ((with_reducible first | refine zR ?_ ?_ | refine zW mixed ?_ ?_); exact kr) | ((with_reducible apply zK); exact rfl; exact tf) | ((with_reducible apply zCD); exact rfl) | ((with_reducible apply zCN); exact rfl) | ((with_reducible apply zC); exact rfl) | ((with_reducible refine zX ?_ ?_); exact rfl) | ((with_reducible refine zE (And.intro ?_ ?_)); exact kr) | (with_reducible refine zE ?_) | ((with_reducible apply zP); exact dp) | ((with_reducible apply zN); exact dn) | ((with_reducible apply zA); exact da) | ((with_reducible apply zS); exact ds) | ((with_reducible apply zY); exact rfl; exact rfl; exact tf) | ((with_reducible apply zG); exact rfl; exact rfl; exact tf) | ((with_reducible apply zU); exact rfl; exact rfl) | ((with_reducible apply zD); exact rfl; exact rfl) | ((with_reducible apply zB); exact rfl; exact rfl)))
    ((with_reducible first | apply q_retR | apply q_retN); exact rl)
    have hyl : (yas A L).length = L.length := by simp [yas]
    rw [hyl] at hI
    rw [← hI]
    rfl

end Go.Proofs.YtagpmpbmfjaiiaaGreatDoor
