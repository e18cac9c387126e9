/- Tolerances: the first settings and their number: walks. -/
import Derived.Test.YtgklcfjfegceeaaTe
import Derived.Test.YtgklcfjfegceeaaPn
set_option linter.unusedVariables false
set_option linter.unusedSimpArgs false
namespace Go.Proofs.Ytgklcfjfegceeaa
open Go.RowKit
set_option maxRecDepth 20000
set_option maxHeartbeats 8000000

theorem find_at {p : List Int → Bool} : ∀ {L : List (List Int)} {k : Nat}, k < L.length → (∀ i, i < k → p (L.getD i []) = false) → p (L.getD k []) = true → L.find? p = some (L.getD k [])
  | [], k, hk, _, _ => by simp at hk
  | l :: L, 0, _, _, h => by
    have h : p l = true := h
    rw [List.find?_cons_of_pos h]; rfl
  | l :: L, k + 1, hk, h1, h => by
    have h0 : p l = false := h1 0 (by omega)
    rw [List.find?_cons_of_neg (by rw [h0]; decide)]
    exact find_at (L := L) (k := k) (by simpa using hk) (fun i hi => h1 (i + 1) (by omega)) h
theorem find_none {p : List Int → Bool} {L : List (List Int)} (h : ∀ i, i < L.length → p (L.getD i []) = false) : L.find? p = none := by
  rw [List.find?_eq_none]
  intro x hx
  obtain ⟨i, hi, rfl⟩ := List.mem_iff_getElem.1 hx
  have := h i hi
  rw [List.getD_eq_getElem?_getD, List.getElem?_eq_getElem hi] at this
  have this : p L[i] = false := this
  rw [this]; decide
/-- Whether settings keep a tolerance. -/
def keepB (T : List Int) (A : List Act3) (m : Int) (l : List Int) : Bool := decide (maxP T A l ≤ m)
theorem firstWithin_A (T : List Int) (A : List Act3) (L : List (List Int)) (m : Int) (h : RulOk T A) (hL : SetsOk A L) (he : rulE T A = (0, 0)) (hm : inR m 0 100000 = true) (r : DV)
    (hr1 : ∀ k, k < L.length → (∀ i, i < k → keepB T A m (L.getD i []) = false) → keepB T A m (L.getD k []) = true → r = .tuple [isl (L.getD k []), I 0]) (hr2 : (∀ i, i < L.length → keepB T A m (L.getD i []) = false) → r = .tuple [nilV, I 12]) :
    AC Try.prog 36 [rulV T A, I m] r := by
  have ht9 := h.t9
  have hlo : LenOk T A := ⟨by omega, by have := h.a3; omega, fun a ha => by have := (h.b a ha).2.2.2.1; omega⟩
  have hop := openTolerance_A T A m hlo
  rw [he, hm] at hop
  refine ac_body Try.func36 rfl (by kernel_rfl) fun w0 ok => ?_; show AWp _ (ctx0 w0 ok _) _ (ARet _ _ _) (entry _)
  (repeat' (first | (with_reducible first | intro hg | refine awp_seq ?_ | refine q_seq ?_ | refine q_blk ?_ | refine awp_block ?_ | refine awp_skip ?_ | refine awp_ret ?_ | refine awp_exit ?_ | refine q_seqE ?_ | refine q_seqR ?_ | refine q_blkR ?_ | refine q_blkE ?_) | ((with_reducible refine awp_region ?_ ?_); (focus exact kr)) | ((with_reducible refine awp_region_any mixed ?_ ?_); (focus exact kr)) | ((with_reducible apply awp_condT); (focus exact rfl); (focus exact tt)) | ((with_reducible apply awp_condF); (focus exact rfl); (focus exact ff)) | ((with_reducible apply awp_condD); (focus exact rfl)) | ((with_reducible apply awp_condN); (focus exact rfl)) | ((with_reducible apply awp_cond); (focus exact rfl)) | ((with_reducible refine q_blkX ?_ ?_); (focus exact rfl)) | ((with_reducible refine r_nil (And.intro ?_ ?_)); (focus exact kr)) | (with_reducible refine r_nil ?_) | ((with_reducible apply r_put); (focus (first | exact o_makeFuncB rfl rfl | exact dp | exact oc rfl (hop)))) | ((with_reducible apply r_new); (focus exact dn)) | ((with_reducible apply r_app); (focus exact da)) | ((with_reducible apply r_set); (focus exact ds)) | ((with_reducible apply r_putY); (focus exact rfl); (focus exact rfl); (focus exact tf); (focus (first | exact o_makeFuncB rfl rfl | exact dp | exact oc rfl (hop)))) | ((with_reducible apply r_newY); (focus exact rfl); (focus exact rfl); (focus exact tf); (focus exact dn)) | ((with_reducible apply r_noT); (focus exact rfl); (focus exact rfl); (focus exact ff)) | ((with_reducible apply r_noF); (focus exact rfl); (focus exact rfl); (focus exact tt)) | ((with_reducible apply r_noU); (focus exact rfl); (focus exact rfl)) | ((with_reducible apply r_splitD); (focus exact rfl); (focus exact rfl)) | ((with_reducible apply r_split); (focus exact rfl); (focus exact rfl))))
  refine awp_rangeFunc (psl := [20]) (bs := [rulV T A]) (caps := []) (fin := true) (xs := yas A L) (fun k (_ : Unit) => ⟨frL [(3, .ptr 3 0), (4, .ptr 4 0), (5, .ptr 5 0), (6, .ptr 6 0)], memL [(3, ⟨3, [I m]⟩), (4, ⟨22, [nilV]⟩), (5, ⟨29, [I 0]⟩), (6, ⟨128, rulC T A⟩)]⟩)
    (fun k _ => ∀ i, i < k → keepB T A m (L.getD i []) = false) () (EntI.eq (P := Try.prog) (f := 79)) (.fn rfl) (settings_A T A L hL.chain h.a0 h.acts) (fun i hi => by omega) (le_of (And.intro rfl (And.intro rfl (And.intro rfl (And.intro rfl trivial)))) (And.intro rfl (And.intro rfl (And.intro rfl (And.intro rfl trivial))))) (by decide) (fun d hd => by obtain ⟨l, _, rfl⟩ := List.mem_map.1 hd; rfl) (fun k y d hI hd W ok' rd ex gv => ?_) (by simp) (fun _ y hI => ?_)
  · obtain ⟨hk, rfl⟩ := yas_at hd
    have hmem : L.getD k [] ∈ L := by rw [List.getD_eq_getElem?_getD, List.getElem?_eq_getElem hk]; exact List.getElem_mem hk
    have hso := hL.ok _ hmem
    have hr1 := hr1 k hk hI
    have hI2 : keepB T A m (L.getD k []) = false → ∀ i, i < k + 1 → keepB T A m (L.getD i []) = false := fun h0 i hi => by
      by_cases e : i = k
      · rw [e]; exact h0
      · exact hI i (by omega)
    generalize L.getD k [] = N at *
    have hmx := maximum_A T A N h hso
    have hmb := maxTo_bnd h hso T.length (Nat.le_refl _)
    have hNl := hso.1
    have ha0 := h.a0
    have ha3 := h.a3
    have hcl := clone_A N (by omega) (fun e => by rw [e] at hNl; simp at hNl; omega)
    rw [hNl] at hcl
    rw [show (isl N : DV) = .slice A.length (ivs N) by rw [← hNl]] at hmx hcl
    refine awp_cut [(20, .lsl YN 0 A.length 1), (1999999, .lsl YN 0 A.length 1), (3, .ptr 3 0), (4, .ptr 4 0), (5, .ptr 5 0), (6, .ptr 6 0), (1000003, .ptr 3 0), (1000004, .ptr 4 0), (1000005, .ptr 5 0), (1000006, .ptr 6 0)] [(3, ⟨3, [I m]⟩), (4, ⟨22, [nilV]⟩), (5, ⟨29, [I 0]⟩), (6, ⟨128, rulC T A⟩), (YN, ⟨3, ivs N⟩)] (And.intro rfl (And.intro rfl (And.intro rfl (And.intro rfl (And.intro rfl (And.intro rfl (And.intro rfl (And.intro rfl (And.intro rfl (And.intro rfl trivial)))))))))) (And.intro rfl (And.intro rfl (And.intro rfl (And.intro rfl (And.intro rfl trivial))))) ?_
    have hv : ((ivs N).drop 0).take (A.length * 1) = ivs N := by rw [List.drop_zero, List.take_of_length_le (by simp [ivs]; omega)]
    replace hmx : AC Try.prog 80 [rulV T A, .slice A.length (((ivs N).drop 0).take (A.length * 1))] (I (maxP T A N)) := by rw [hv]; exact hmx
    replace hcl : ACo Try.prog 81 [.slice A.length (((ivs N).drop 0).take (A.length * 1))] 3 A.length 1 (ivs N) := by rw [hv]; exact hcl
    have hNe : N ≠ [] := fun e => by rw [e] at hNl; simp at hNl; omega
    (repeat' (first | (with_reducible first | intro hg | refine awp_seq ?_ | refine q_seq ?_ | refine q_blk ?_ | refine awp_block ?_ | refine awp_skip ?_ | refine awp_ret ?_ | refine awp_exit ?_ | refine q_seqE ?_ | refine q_seqR ?_ | refine q_blkR ?_ | refine q_blkE ?_) | ((with_reducible refine awp_region ?_ ?_); (focus exact kr)) | ((with_reducible refine awp_region_any mixed ?_ ?_); (focus exact kr)) | ((with_reducible apply awp_condT); (focus exact rfl); (focus exact tt)) | ((with_reducible apply awp_condF); (focus exact rfl); (focus exact ff)) | ((with_reducible apply awp_condD); (focus exact rfl)) | ((with_reducible apply awp_condN); (focus exact rfl)) | ((with_reducible apply awp_cond); (focus exact rfl)) | ((with_reducible refine q_blkX ?_ ?_); (focus exact rfl)) | ((with_reducible refine r_nil (And.intro ?_ ?_)); (focus exact kr)) | (with_reducible refine r_nil ?_) | ((with_reducible apply r_put); (focus exact dp)) | ((with_reducible apply r_new); (focus exact dn)) | ((with_reducible apply r_app); (focus exact da)) | ((with_reducible apply r_set); (focus exact ds)) | ((with_reducible apply r_putY); (focus exact rfl); (focus exact rfl); (focus exact tf); (focus exact dp)) | ((with_reducible apply r_newY); (focus exact rfl); (focus exact rfl); (focus exact tf); (focus exact dn)) | ((with_reducible apply r_noT); (focus exact rfl); (focus exact rfl); (focus exact ff)) | ((with_reducible apply r_noF); (focus exact rfl); (focus exact rfl); (focus exact tt)) | ((with_reducible apply r_noU); (focus exact rfl); (focus exact rfl)) | ((with_reducible apply r_splitD); (focus exact rfl); (focus exact rfl)) | ((with_reducible apply r_split); (focus exact rfl); (focus exact rfl))))
    refine ⟨rfl, fun W' => ?_⟩
    by_cases hlt : maxP T A N ≤ m
    · have hr4 : r = .tuple [.slice A.length (ivs N), I 0] := by
        rw [hr1 (decide_eq_true hlt)]
        show DV.tuple [DV.slice N.length (ivs N), I 0] = _
        rw [hNl]
      (repeat' (first | (with_reducible first | intro hg | refine awp_seq ?_ | refine q_seq ?_ | refine q_blk ?_ | refine awp_block ?_ | refine awp_skip ?_ | refine awp_ret ?_ | refine awp_exit ?_ | refine q_seqE ?_ | refine q_seqR ?_ | refine q_blkR ?_ | refine q_blkE ?_) | ((with_reducible refine awp_region ?_ ?_); (focus exact kr)) | ((with_reducible refine awp_region_any mixed ?_ ?_); (focus exact kr)) | ((with_reducible apply awp_condT); (focus exact rfl); (focus exact tt)) | ((with_reducible apply awp_condF); (focus exact rfl); (focus exact ff)) | ((with_reducible apply awp_condD); (focus exact rfl)) | ((with_reducible apply awp_condN); (focus exact rfl)) | ((with_reducible apply awp_cond); (focus exact rfl)) | ((with_reducible refine q_blkX ?_ ?_); (focus exact rfl)) | ((with_reducible refine r_nil (And.intro ?_ ?_)); (focus exact kr)) | (with_reducible refine r_nil ?_) | ((with_reducible apply r_put); (focus (first | exact o_callF1 rfl hcl (ivs_flat N) | exact dp | exact oc rfl (hmx)))) | ((with_reducible apply r_new); (focus exact dn)) | ((with_reducible apply r_app); (focus exact da)) | ((with_reducible apply r_set); (focus exact ds)) | ((with_reducible apply r_putY); (focus exact rfl); (focus exact rfl); (focus exact tf); (focus (first | exact o_callF1 rfl hcl (ivs_flat N) | exact dp | exact oc rfl (hmx)))) | ((with_reducible apply r_newY); (focus exact rfl); (focus exact rfl); (focus exact tf); (focus exact dn)) | ((with_reducible apply r_noT); (focus exact rfl); (focus exact rfl); (focus exact ff)) | ((with_reducible apply r_noF); (focus exact rfl); (focus exact rfl); (focus exact tt)) | ((with_reducible apply r_noU); (focus exact rfl); (focus exact rfl)) | ((with_reducible apply r_splitD); (focus exact rfl); (focus exact rfl)) | ((with_reducible apply r_split); (focus exact rfl); (focus exact rfl))))
      refine ⟨⟨rfl, rfl⟩, ?_⟩
      show ARet _ _ _ .ret (uns _)
      ((with_reducible first | apply q_retR | apply q_retN); (focus exact rl))
      exact hr4
    · have hn := hI2 (decide_eq_false hlt)
      (repeat' (first | (with_reducible first | intro hg | refine awp_seq ?_ | refine q_seq ?_ | refine q_blk ?_ | refine awp_block ?_ | refine awp_skip ?_ | refine awp_ret ?_ | refine awp_exit ?_ | refine q_seqE ?_ | refine q_seqR ?_ | refine q_blkR ?_ | refine q_blkE ?_) | ((with_reducible refine awp_region ?_ ?_); (focus exact kr)) | ((with_reducible refine awp_region_any mixed ?_ ?_); (focus exact kr)) | ((with_reducible apply awp_condT); (focus exact rfl); (focus exact tt)) | ((with_reducible apply awp_condF); (focus exact rfl); (focus exact ff)) | ((with_reducible apply awp_condD); (focus exact rfl)) | ((with_reducible apply awp_condN); (focus exact rfl)) | ((with_reducible apply awp_cond); (focus exact rfl)) | ((with_reducible refine q_blkX ?_ ?_); (focus exact rfl)) | ((with_reducible refine r_nil (And.intro ?_ ?_)); (focus exact kr)) | (with_reducible refine r_nil ?_) | ((with_reducible apply r_put); (focus (first | exact o_callF1 rfl hcl (ivs_flat N) | exact dp | exact oc rfl (hmx)))) | ((with_reducible apply r_new); (focus exact dn)) | ((with_reducible apply r_app); (focus exact da)) | ((with_reducible apply r_set); (focus exact ds)) | ((with_reducible apply r_putY); (focus exact rfl); (focus exact rfl); (focus exact tf); (focus (first | exact o_callF1 rfl hcl (ivs_flat N) | exact dp | exact oc rfl (hmx)))) | ((with_reducible apply r_newY); (focus exact rfl); (focus exact rfl); (focus exact tf); (focus exact dn)) | ((with_reducible apply r_noT); (focus exact rfl); (focus exact rfl); (focus exact ff)) | ((with_reducible apply r_noF); (focus exact rfl); (focus exact rfl); (focus exact tt)) | ((with_reducible apply r_noU); (focus exact rfl); (focus exact rfl)) | ((with_reducible apply r_splitD); (focus exact rfl); (focus exact rfl)) | ((with_reducible apply r_split); (focus exact rfl); (focus exact rfl))))
      exact ⟨⟨rfl, rfl⟩, (), hn, le_of (And.intro rfl (And.intro rfl (And.intro rfl (And.intro rfl trivial)))) (And.intro rfl (And.intro rfl (And.intro rfl (And.intro rfl trivial))))⟩
  · have hyl : (yas A L).length = L.length := by simp [yas]
    rw [hyl] at hI
    have hr3 := hr2 hI
    (repeat' (first | (with_reducible first | intro hg | refine awp_seq ?_ | refine q_seq ?_ | refine q_blk ?_ | refine awp_block ?_ | refine awp_skip ?_ | refine awp_ret ?_ | refine awp_exit ?_ | refine q_seqE ?_ | refine q_seqR ?_ | refine q_blkR ?_ | refine q_blkE ?_) | ((with_reducible refine awp_region ?_ ?_); (focus exact kr)) | ((with_reducible refine awp_region_any mixed ?_ ?_); (focus exact kr)) | ((with_reducible apply awp_condT); (focus exact rfl); (focus exact tt)) | ((with_reducible apply awp_condF); (focus exact rfl); (focus exact ff)) | ((with_reducible apply awp_condD); (focus exact rfl)) | ((with_reducible apply awp_condN); (focus exact rfl)) | ((with_reducible apply awp_cond); (focus exact rfl)) | ((with_reducible refine q_blkX ?_ ?_); (focus exact rfl)) | ((with_reducible refine r_nil (And.intro ?_ ?_)); (focus exact kr)) | (with_reducible refine r_nil ?_) | ((with_reducible apply r_put); (focus exact dp)) | ((with_reducible apply r_new); (focus exact dn)) | ((with_reducible apply r_app); (focus exact da)) | ((with_reducible apply r_set); (focus exact ds)) | ((with_reducible apply r_putY); (focus exact rfl); (focus exact rfl); (focus exact tf); (focus exact dp)) | ((with_reducible apply r_newY); (focus exact rfl); (focus exact rfl); (focus exact tf); (focus exact dn)) | ((with_reducible apply r_noT); (focus exact rfl); (focus exact rfl); (focus exact ff)) | ((with_reducible apply r_noF); (focus exact rfl); (focus exact rfl); (focus exact tt)) | ((with_reducible apply r_noU); (focus exact rfl); (focus exact rfl)) | ((with_reducible apply r_splitD); (focus exact rfl); (focus exact rfl)) | ((with_reducible apply r_split); (focus exact rfl); (focus exact rfl))))
    ((with_reducible first | apply q_retR | apply q_retN); (focus exact rl))
    exact hr3
def cntK (p : List Int → Bool) (L : List (List Int)) : Nat → Nat
  | 0 => 0
  | k + 1 => cntK p L k + bif p (L.getD k []) then 1 else 0
theorem cntK_eq (p : List Int → Bool) (L : List (List Int)) : ∀ k, k ≤ L.length → cntK p L k = ((L.take k).filter p).length
  | 0, _ => rfl
  | k + 1, hk => by
    have hk' : k < L.length := hk
    show cntK p L k + (bif p (L.getD k []) then 1 else 0) = _
    rw [cntK_eq p L k (by omega), List.take_add_one, List.filter_append, List.length_append, List.getD_eq_getElem?_getD, List.getElem?_eq_getElem hk']
    cases h : p L[k]
    · simp [h]
    · simp [h]
theorem cntK_le (p : List Int → Bool) (L : List (List Int)) : ∀ k, cntK p L k ≤ k
  | 0 => Nat.le_refl _
  | k + 1 => by
    have := cntK_le p L k
    show cntK p L k + (bif p (L.getD k []) then 1 else 0) ≤ _
    cases p (L.getD k [])
    · show cntK p L k + 0 ≤ _; omega
    · show cntK p L k + 1 ≤ _; omega
theorem countWithin_A (T : List Int) (A : List Act3) (L : List (List Int)) (m : Int) (h : RulOk T A) (hL : SetsOk A L) (hLl : L.length ≤ 1000000) (he : rulE T A = (0, 0)) (hm : inR m 0 100000 = true) :
    AC Try.prog 51 [rulV T A, I m] (.tuple [I (cntK (keepB T A m) L L.length), I 0]) := by
  have ht9 := h.t9
  have hlo : LenOk T A := ⟨by omega, by have := h.a3; omega, fun a ha => by have := (h.b a ha).2.2.2.1; omega⟩
  have hop := openTolerance_A T A m hlo
  rw [he, hm] at hop
  refine ac_body Try.func51 rfl (by kernel_rfl) fun w0 ok => ?_; show AWp _ (ctx0 w0 ok _) _ (ARet _ _ _) (entry _)
  (repeat' (first | (with_reducible first | intro hg | refine awp_seq ?_ | refine q_seq ?_ | refine q_blk ?_ | refine awp_block ?_ | refine awp_skip ?_ | refine awp_ret ?_ | refine awp_exit ?_ | refine q_seqE ?_ | refine q_seqR ?_ | refine q_blkR ?_ | refine q_blkE ?_) | ((with_reducible refine awp_region ?_ ?_); (focus exact kr)) | ((with_reducible refine awp_region_any mixed ?_ ?_); (focus exact kr)) | ((with_reducible apply awp_condT); (focus exact rfl); (focus exact tt)) | ((with_reducible apply awp_condF); (focus exact rfl); (focus exact ff)) | ((with_reducible apply awp_condD); (focus exact rfl)) | ((with_reducible apply awp_condN); (focus exact rfl)) | ((with_reducible apply awp_cond); (focus exact rfl)) | ((with_reducible refine q_blkX ?_ ?_); (focus exact rfl)) | ((with_reducible refine r_nil (And.intro ?_ ?_)); (focus exact kr)) | (with_reducible refine r_nil ?_) | ((with_reducible apply r_put); (focus (first | exact o_makeFuncB rfl rfl | exact dp | exact oc rfl (hop)))) | ((with_reducible apply r_new); (focus exact dn)) | ((with_reducible apply r_app); (focus exact da)) | ((with_reducible apply r_set); (focus exact ds)) | ((with_reducible apply r_putY); (focus exact rfl); (focus exact rfl); (focus exact tf); (focus (first | exact o_makeFuncB rfl rfl | exact dp | exact oc rfl (hop)))) | ((with_reducible apply r_newY); (focus exact rfl); (focus exact rfl); (focus exact tf); (focus exact dn)) | ((with_reducible apply r_noT); (focus exact rfl); (focus exact rfl); (focus exact ff)) | ((with_reducible apply r_noF); (focus exact rfl); (focus exact rfl); (focus exact tt)) | ((with_reducible apply r_noU); (focus exact rfl); (focus exact rfl)) | ((with_reducible apply r_splitD); (focus exact rfl); (focus exact rfl)) | ((with_reducible apply r_split); (focus exact rfl); (focus exact rfl))))
  refine awp_rangeFunc (psl := [21]) (bs := [rulV T A]) (caps := []) (fin := true) (xs := yas A L) (fun k (_ : Unit) => ⟨frL [(3, .ptr 3 0), (6, .ptr 6 0), (8, .ptr 8 0)], memL [(3, ⟨3, [I m]⟩), (6, ⟨128, rulC T A⟩), (8, ⟨3, [I (cntK (keepB T A m) L k)]⟩)]⟩)
    (fun _ _ => True) () (EntI.eq (P := Try.prog) (f := 79)) (.fn rfl) (settings_A T A L hL.chain h.a0 h.acts) trivial (le_of (And.intro rfl (And.intro rfl (And.intro rfl trivial))) (And.intro rfl (And.intro rfl (And.intro rfl trivial)))) (by decide) (fun d hd => by obtain ⟨l, _, rfl⟩ := List.mem_map.1 hd; rfl) (fun k y d hI hd W ok' rd ex gv => ?_) (by simp) (fun _ y hI => ?_)
  · obtain ⟨hk, rfl⟩ := yas_at hd
    have hmem : L.getD k [] ∈ L := by rw [List.getD_eq_getElem?_getD, List.getElem?_eq_getElem hk]; exact List.getElem_mem hk
    have hso := hL.ok _ hmem
    have hsu : cntK (keepB T A m) L (k + 1) = cntK (keepB T A m) L k + bif keepB T A m (L.getD k []) then 1 else 0 := rfl
    have hcl := cntK_le (keepB T A m) L k
    generalize cntK (keepB T A m) L (k + 1) = c1 at *
    generalize cntK (keepB T A m) L k = c0 at *
    generalize L.getD k [] = N at *
    have hmx := maximum_A T A N h hso
    have hmb := maxTo_bnd h hso T.length (Nat.le_refl _)
    have hNl := hso.1
    rw [show (isl N : DV) = .slice A.length (ivs N) by rw [← hNl]] at hmx
    refine awp_cut [(21, .lsl YN 0 A.length 1), (1999999, .lsl YN 0 A.length 1), (3, .ptr 3 0), (6, .ptr 6 0), (8, .ptr 8 0), (1000003, .ptr 3 0), (1000006, .ptr 6 0), (1000008, .ptr 8 0)] [(3, ⟨3, [I m]⟩), (6, ⟨128, rulC T A⟩), (8, ⟨3, [I (c0 : Nat)]⟩), (YN, ⟨3, ivs N⟩)] (And.intro rfl (And.intro rfl (And.intro rfl (And.intro rfl (And.intro rfl (And.intro rfl (And.intro rfl (And.intro rfl trivial)))))))) (And.intro rfl (And.intro rfl (And.intro rfl (And.intro rfl trivial)))) ?_
    have hv : ((ivs N).drop 0).take (A.length * 1) = ivs N := by rw [List.drop_zero, List.take_of_length_le (by simp [ivs]; omega)]
    replace hmx : AC Try.prog 80 [rulV T A, .slice A.length (((ivs N).drop 0).take (A.length * 1))] (I (maxP T A N)) := by rw [hv]; exact hmx
    (repeat' (first | (with_reducible first | intro hg | refine awp_seq ?_ | refine q_seq ?_ | refine q_blk ?_ | refine awp_block ?_ | refine awp_skip ?_ | refine awp_ret ?_ | refine awp_exit ?_ | refine q_seqE ?_ | refine q_seqR ?_ | refine q_blkR ?_ | refine q_blkE ?_) | ((with_reducible refine awp_region ?_ ?_); (focus exact kr)) | ((with_reducible refine awp_region_any mixed ?_ ?_); (focus exact kr)) | ((with_reducible apply awp_condT); (focus exact rfl); (focus exact tt)) | ((with_reducible apply awp_condF); (focus exact rfl); (focus exact ff)) | ((with_reducible apply awp_condD); (focus exact rfl)) | ((with_reducible apply awp_condN); (focus exact rfl)) | ((with_reducible apply awp_cond); (focus exact rfl)) | ((with_reducible refine q_blkX ?_ ?_); (focus exact rfl)) | ((with_reducible refine r_nil (And.intro ?_ ?_)); (focus exact kr)) | (with_reducible refine r_nil ?_) | ((with_reducible apply r_put); (focus exact dp)) | ((with_reducible apply r_new); (focus exact dn)) | ((with_reducible apply r_app); (focus exact da)) | ((with_reducible apply r_set); (focus exact ds)) | ((with_reducible apply r_putY); (focus exact rfl); (focus exact rfl); (focus exact tf); (focus exact dp)) | ((with_reducible apply r_newY); (focus exact rfl); (focus exact rfl); (focus exact tf); (focus exact dn)) | ((with_reducible apply r_noT); (focus exact rfl); (focus exact rfl); (focus exact ff)) | ((with_reducible apply r_noF); (focus exact rfl); (focus exact rfl); (focus exact tt)) | ((with_reducible apply r_noU); (focus exact rfl); (focus exact rfl)) | ((with_reducible apply r_splitD); (focus exact rfl); (focus exact rfl)) | ((with_reducible apply r_split); (focus exact rfl); (focus exact rfl))))
    refine ⟨rfl, fun W' => ?_⟩
    by_cases hlt : maxP T A N ≤ m
    · have hc : c1 = c0 + 1 := by rw [hsu]; unfold keepB; rw [decide_eq_true hlt]; rfl
      (repeat' (first | (with_reducible first | intro hg | refine awp_seq ?_ | refine q_seq ?_ | refine q_blk ?_ | refine awp_block ?_ | refine awp_skip ?_ | refine awp_ret ?_ | refine awp_exit ?_ | refine q_seqE ?_ | refine q_seqR ?_ | refine q_blkR ?_ | refine q_blkE ?_) | ((with_reducible refine awp_region ?_ ?_); (focus exact kr)) | ((with_reducible refine awp_region_any mixed ?_ ?_); (focus exact kr)) | ((with_reducible apply awp_condT); (focus exact rfl); (focus exact tt)) | ((with_reducible apply awp_condF); (focus exact rfl); (focus exact ff)) | ((with_reducible apply awp_condD); (focus exact rfl)) | ((with_reducible apply awp_condN); (focus exact rfl)) | ((with_reducible apply awp_cond); (focus exact rfl)) | ((with_reducible refine q_blkX ?_ ?_); (focus exact rfl)) | ((with_reducible refine r_nil (And.intro ?_ ?_)); (focus exact kr)) | (with_reducible refine r_nil ?_) | ((with_reducible apply r_put); (focus (first | exact dp | exact oc rfl (hmx)))) | ((with_reducible apply r_new); (focus exact dn)) | ((with_reducible apply r_app); (focus exact da)) | ((with_reducible apply r_set); (focus exact ds)) | ((with_reducible apply r_putY); (focus exact rfl); (focus exact rfl); (focus exact tf); (focus (first | exact dp | exact oc rfl (hmx)))) | ((with_reducible apply r_newY); (focus exact rfl); (focus exact rfl); (focus exact tf); (focus exact dn)) | ((with_reducible apply r_noT); (focus exact rfl); (focus exact rfl); (focus exact ff)) | ((with_reducible apply r_noF); (focus exact rfl); (focus exact rfl); (focus exact tt)) | ((with_reducible apply r_noU); (focus exact rfl); (focus exact rfl)) | ((with_reducible apply r_splitD); (focus exact rfl); (focus exact rfl)) | ((with_reducible apply r_split); (focus exact rfl); (focus exact rfl))))
      exact ⟨⟨rfl, rfl⟩, (), trivial, le_of (And.intro rfl (And.intro rfl (And.intro rfl trivial))) (And.intro rfl (And.intro rfl (And.intro (congrArg (fun n => some (Blk.mk 3 [I n])) (show (c0 : Int) + 1 = ((c1 : Nat) : Int) by omega)) trivial)))⟩
    · have hc : c1 = c0 := by rw [hsu]; unfold keepB; rw [decide_eq_false hlt]; rfl
      (repeat' (first | (with_reducible first | intro hg | refine awp_seq ?_ | refine q_seq ?_ | refine q_blk ?_ | refine awp_block ?_ | refine awp_skip ?_ | refine awp_ret ?_ | refine awp_exit ?_ | refine q_seqE ?_ | refine q_seqR ?_ | refine q_blkR ?_ | refine q_blkE ?_) | ((with_reducible refine awp_region ?_ ?_); (focus exact kr)) | ((with_reducible refine awp_region_any mixed ?_ ?_); (focus exact kr)) | ((with_reducible apply awp_condT); (focus exact rfl); (focus exact tt)) | ((with_reducible apply awp_condF); (focus exact rfl); (focus exact ff)) | ((with_reducible apply awp_condD); (focus exact rfl)) | ((with_reducible apply awp_condN); (focus exact rfl)) | ((with_reducible apply awp_cond); (focus exact rfl)) | ((with_reducible refine q_blkX ?_ ?_); (focus exact rfl)) | ((with_reducible refine r_nil (And.intro ?_ ?_)); (focus exact kr)) | (with_reducible refine r_nil ?_) | ((with_reducible apply r_put); (focus (first | exact dp | exact oc rfl (hmx)))) | ((with_reducible apply r_new); (focus exact dn)) | ((with_reducible apply r_app); (focus exact da)) | ((with_reducible apply r_set); (focus exact ds)) | ((with_reducible apply r_putY); (focus exact rfl); (focus exact rfl); (focus exact tf); (focus (first | exact dp | exact oc rfl (hmx)))) | ((with_reducible apply r_newY); (focus exact rfl); (focus exact rfl); (focus exact tf); (focus exact dn)) | ((with_reducible apply r_noT); (focus exact rfl); (focus exact rfl); (focus exact ff)) | ((with_reducible apply r_noF); (focus exact rfl); (focus exact rfl); (focus exact tt)) | ((with_reducible apply r_noU); (focus exact rfl); (focus exact rfl)) | ((with_reducible apply r_splitD); (focus exact rfl); (focus exact rfl)) | ((with_reducible apply r_split); (focus exact rfl); (focus exact rfl))))
      exact ⟨⟨rfl, rfl⟩, (), trivial, le_of (And.intro rfl (And.intro rfl (And.intro rfl trivial))) (And.intro rfl (And.intro rfl (And.intro (congrArg (fun n => some (Blk.mk 3 [I n])) (show (c0 : Int) = ((c1 : Nat) : Int) by omega)) trivial)))⟩
  · have hyl : (yas A L).length = L.length := by simp [yas]
    rw [hyl]
    (repeat' (first | (with_reducible first | intro hg | refine awp_seq ?_ | refine q_seq ?_ | refine q_blk ?_ | refine awp_block ?_ | refine awp_skip ?_ | refine awp_ret ?_ | refine awp_exit ?_ | refine q_seqE ?_ | refine q_seqR ?_ | refine q_blkR ?_ | refine q_blkE ?_) | ((with_reducible refine awp_region ?_ ?_); (focus exact kr)) | ((with_reducible refine awp_region_any mixed ?_ ?_); (focus exact kr)) | ((with_reducible apply awp_condT); (focus exact rfl); (focus exact tt)) | ((with_reducible apply awp_condF); (focus exact rfl); (focus exact ff)) | ((with_reducible apply awp_condD); (focus exact rfl)) | ((with_reducible apply awp_condN); (focus exact rfl)) | ((with_reducible apply awp_cond); (focus exact rfl)) | ((with_reducible refine q_blkX ?_ ?_); (focus exact rfl)) | ((with_reducible refine r_nil (And.intro ?_ ?_)); (focus exact kr)) | (with_reducible refine r_nil ?_) | ((with_reducible apply r_put); (focus exact dp)) | ((with_reducible apply r_new); (focus exact dn)) | ((with_reducible apply r_app); (focus exact da)) | ((with_reducible apply r_set); (focus exact ds)) | ((with_reducible apply r_putY); (focus exact rfl); (focus exact rfl); (focus exact tf); (focus exact dp)) | ((with_reducible apply r_newY); (focus exact rfl); (focus exact rfl); (focus exact tf); (focus exact dn)) | ((with_reducible apply r_noT); (focus exact rfl); (focus exact rfl); (focus exact ff)) | ((with_reducible apply r_noF); (focus exact rfl); (focus exact rfl); (focus exact tt)) | ((with_reducible apply r_noU); (focus exact rfl); (focus exact rfl)) | ((with_reducible apply r_splitD); (focus exact rfl); (focus exact rfl)) | ((with_reducible apply r_split); (focus exact rfl); (focus exact rfl))))
    ((with_reducible first | apply q_retR | apply q_retN); (focus exact rl))
    rfl

end Go.Proofs.Ytgklcfjfegceeaa
