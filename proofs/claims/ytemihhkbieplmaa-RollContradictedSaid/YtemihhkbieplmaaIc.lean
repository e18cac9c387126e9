/- Walks: the marks that contradict a circumference. -/
import Derived.Test.YtemihhkbieplmaaIb
set_option linter.unusedVariables false
set_option linter.unusedSimpArgs false
namespace Go.Proofs.Ytemihhkbieplmaa
open Go.RowKit
set_option maxRecDepth 20000
set_option maxHeartbeats 8000000

theorem mk0_ne (xs : List Int) (t : Int) : mk0 xs t ≠ 12 := by
  unfold mk0
  cases decide (2 ≤ (xs.length : Int)) <;> cases decide ((xs.length : Int) ≤ 30) <;> cases inR t 0 10000 <;> decide
theorem markE_ne (last n : Int) : markE last n ≠ 12 := by
  unfold markE
  cases inR n 0 1000000 <;> cases decide (last < n) <;> decide
theorem scan_ne : ∀ (l : List Int) (last i : Int), (scanM last l i).2 ≠ 12
  | [], _, _ => by unfold scanM; decide
  | n :: l, last, i => by
    rw [scanM]
    split
    · exact scan_ne l _ _
    · exact markE_ne _ _
theorem chk_ne (xs : List Int) (t : Int) : (chkM xs t).2 ≠ 12 := by
  unfold chkM
  split
  · exact scan_ne _ _ _
  · exact mk0_ne _ _
theorem rnd_ne (t r : Int) : rndErr t r ≠ 12 := by
  unfold rndErr
  cases inR r 1 10000 <;> cases decide (4 * t < r) <;> decide
theorem phE_twelve {xs : List Int} {t r : Int} (h : phE xs t r = 12) : (chkM xs t).2 = 0 ∧ rndErr t r = 0 ∧ phOk xs t r (allM xs) = false := by
  unfold phE at h
  by_cases h1 : (chkM xs t).2 = 0
  · rw [h1, fst0_zero] at h
    by_cases h2 : rndErr t r = 0
    · rw [h2, fst0_zero, fst0_one] at h
      refine ⟨h1, h2, ?_⟩
      cases hq : phOk xs t r (allM xs)
      · rfl
      · rw [hq] at h; exact absurd h (by decide)
    · rw [fst0_ne h2] at h; exact absurd h (rnd_ne _ _)
  · rw [fst0_ne h1] at h; exact absurd h (chk_ne _ _)
theorem phE_none {xs : List Int} {t r : Int} (h1 : (chkM xs t).2 = 0) (h2 : rndErr t r = 0) (h3 : phOk xs t r (allM xs) = false) : phE xs t r = 12 := by
  unfold phE; rw [h1, h2, h3]; rfl
theorem contra_err (xs : List Int) (t r : Int) (hm : xs.length ≤ 140737488355328) (he : phE xs t r ≠ 12) : AC Try.prog 69 [marksV xs t, I r] (.tuple [nilV, I (if phE xs t r = 0 then 12 else phE xs t r)]) := by
  by_cases h0 : phE xs t r = 0
  · have hp := phaseOf_ok xs t r h0
    have hf := first2_A 0 12
    rw [if_pos h0]
    refine ac_body Try.func69 rfl (by kernel_rfl) fun w0 ok => ?_; show AWp _ (ctx0 w0 ok _) _ (ARet _ _ _) (entry _)
    (repeat' (first | (with_reducible first | intro hg | refine awp_seq ?_ | refine q_seq ?_ | refine q_blk ?_ | refine awp_block ?_ | refine awp_skip ?_ | refine awp_ret ?_ | refine awp_exit ?_ | refine q_seqE ?_ | refine q_seqR ?_ | refine q_blkR ?_ | refine q_blkE ?_) | ((with_reducible refine awp_region ?_ ?_); (focus exact kr)) | ((with_reducible refine awp_region_any mixed ?_ ?_); (focus exact kr)) | ((with_reducible apply awp_condT); (focus exact rfl); (focus exact tt)) | ((with_reducible apply awp_condF); (focus exact rfl); (focus exact ff)) | ((with_reducible apply awp_condD); (focus exact rfl)) | ((with_reducible apply awp_condN); (focus exact rfl)) | ((with_reducible apply awp_cond); (focus exact rfl)) | ((with_reducible refine q_blkX ?_ ?_); (focus exact rfl)) | ((with_reducible refine r_nil (And.intro ?_ ?_)); (focus exact kr)) | (with_reducible refine r_nil ?_) | ((with_reducible apply r_put); (focus (first | exact o_buildSlD rfl (by decide) rfl | exact dp | exact oc rfl (hp) | exact oc rfl (hf)))) | ((with_reducible apply r_new); (focus exact dn)) | ((with_reducible apply r_app); (focus exact da)) | ((with_reducible apply r_set); (focus exact ds)) | ((with_reducible apply r_putY); (focus exact rfl); (focus exact rfl); (focus exact tf); (focus (first | exact o_buildSlD rfl (by decide) rfl | exact dp | exact oc rfl (hp) | exact oc rfl (hf)))) | ((with_reducible apply r_newY); (focus exact rfl); (focus exact rfl); (focus exact tf); (focus exact dn)) | ((with_reducible apply r_noT); (focus exact rfl); (focus exact rfl); (focus exact ff)) | ((with_reducible apply r_noF); (focus exact rfl); (focus exact rfl); (focus exact tt)) | ((with_reducible apply r_noU); (focus exact rfl); (focus exact rfl)) | ((with_reducible apply r_splitD); (focus exact rfl); (focus exact rfl)) | ((with_reducible apply r_split); (focus exact rfl); (focus exact rfl))))
    ((with_reducible first | apply q_retR | apply q_retN); (focus exact rl))
    rfl
  · have hp := phaseOf_err xs t r hm h0
    have hf := first2_A (phE xs t r) 12
    rw [fst0_ne h0] at hf
    rw [if_neg h0]
    refine ac_body Try.func69 rfl (by kernel_rfl) fun w0 ok => ?_; show AWp _ (ctx0 w0 ok _) _ (ARet _ _ _) (entry _)
    (repeat' (first | (with_reducible first | intro hg | refine awp_seq ?_ | refine q_seq ?_ | refine q_blk ?_ | refine awp_block ?_ | refine awp_skip ?_ | refine awp_ret ?_ | refine awp_exit ?_ | refine q_seqE ?_ | refine q_seqR ?_ | refine q_blkR ?_ | refine q_blkE ?_) | ((with_reducible refine awp_region ?_ ?_); (focus exact kr)) | ((with_reducible refine awp_region_any mixed ?_ ?_); (focus exact kr)) | ((with_reducible apply awp_condT); (focus exact rfl); (focus exact tt)) | ((with_reducible apply awp_condF); (focus exact rfl); (focus exact ff)) | ((with_reducible apply awp_condD); (focus exact rfl)) | ((with_reducible apply awp_condN); (focus exact rfl)) | ((with_reducible apply awp_cond); (focus exact rfl)) | ((with_reducible refine q_blkX ?_ ?_); (focus exact rfl)) | ((with_reducible refine r_nil (And.intro ?_ ?_)); (focus exact kr)) | (with_reducible refine r_nil ?_) | ((with_reducible apply r_put); (focus (first | exact o_buildSlD rfl (by decide) rfl | exact dp | exact oc rfl (hp) | exact oc rfl (hf)))) | ((with_reducible apply r_new); (focus exact dn)) | ((with_reducible apply r_app); (focus exact da)) | ((with_reducible apply r_set); (focus exact ds)) | ((with_reducible apply r_putY); (focus exact rfl); (focus exact rfl); (focus exact tf); (focus (first | exact o_buildSlD rfl (by decide) rfl | exact dp | exact oc rfl (hp) | exact oc rfl (hf)))) | ((with_reducible apply r_newY); (focus exact rfl); (focus exact rfl); (focus exact tf); (focus exact dn)) | ((with_reducible apply r_noT); (focus exact rfl); (focus exact rfl); (focus exact ff)) | ((with_reducible apply r_noF); (focus exact rfl); (focus exact rfl); (focus exact tt)) | ((with_reducible apply r_noU); (focus exact rfl); (focus exact rfl)) | ((with_reducible apply r_splitD); (focus exact rfl); (focus exact rfl)) | ((with_reducible apply r_split); (focus exact rfl); (focus exact rfl))))
    ((with_reducible first | apply q_retR | apply q_retN); (focus exact rl))
    rfl
theorem grw_ix {xs l : List Int} {m : Nat} (hm : 1 ≤ m) (hm2 : m ≤ 1000) (h : l ∈ grw xs.length m [] 0) : IxOk xs l := by
  obtain ⟨s, rfl, h1, h2⟩ := grw_mem.1 h
  refine ⟨by omega, by omega, fun i hi => ?_⟩
  obtain ⟨j, rfl, _, h3⟩ := rise_all h2 i hi
  omega
theorem grw_none {cnt m : Nat} (h : cnt < m) : grw cnt m [] 0 = [] := by
  rw [List.eq_nil_iff_forall_not_mem]
  intro l hl
  obtain ⟨s, rfl, h1, h2⟩ := grw_mem.1 hl
  have key : ∀ {n : Nat} {s : List Int}, Rise cnt n s → s = [] ∨ n + s.length ≤ cnt := by
    intro n s hr
    induction hr with
    | nil => exact .inl rfl
    | cons k h1 h2 _ ih =>
      refine .inr ?_
      rw [List.length_cons]
      rcases ih with rfl | ih
      · simp; omega
      · omega
  rcases key h2 with rfl | h3
  · simp at h1; omega
  · omega
theorem yasG_at {L : List (List Int)} {j : Nat} {d : YA} (h : (yasG L)[j]? = some d) : j < L.length ∧ d = .gv [isl (L.getD j [])] := by
  rw [List.getElem?_map] at h
  obtain ⟨l, h1, rfl⟩ := Option.map_eq_some_iff.1 h
  refine ⟨(List.getElem?_eq_some_iff.1 h1).1, ?_⟩
  rw [List.getD_eq_getElem?_getD, h1]; rfl
theorem find_app {L A B : List (List Int)} {p : List Int → Bool} {x : List Int} (e : L = A ++ x :: B) (h1 : ∀ l ∈ A, p l = false) (h2 : p x = true) : L.find? p = some x := by
  subst e
  have : A.find? p = none := by
    rw [List.find?_eq_none]; intro l hl; rw [h1 l hl]; simp
  rw [List.find?_append, this, List.find?_cons, h2]
  rfl
theorem find_here {L : List (List Int)} {p : List Int → Bool} {j : Nat} (hj : j < L.length) (h1 : ∀ l ∈ L.take j, p l = false) (h2 : p (L.getD j []) = true) : L.find? p = some (L.getD j []) :=
  find_app (B := L.drop (j + 1)) (by
    rw [List.getD_eq_getElem?_getD, List.getElem?_eq_getElem hj]
    simp) h1 h2
theorem contra_ok (xs : List Int) (t r : Int) (h1 : (chkM xs t).2 = 0) (h2 : rndErr t r = 0) (h3 : phOk xs t r (allM xs) = false) (res : DV) (hres : ∀ l, ctrS xs t r = some l → res = .tuple [isl l, I 0]) : AC Try.prog 69 [marksV xs t, I r] res := by
  have hmk := chk_ok h1
  obtain ⟨k1, k2, k3, k4, k5, _⟩ := id hmk
  obtain ⟨⟨r1, r2⟩, r3⟩ := rnd_ok h2
  obtain ⟨lS, hS⟩ := ctrS_none (r := r) k3 (by omega) h3
  have hpe := phE_none h1 h2 h3
  have hp := phaseOf_err xs t r (by omega) (by rw [hpe]; decide)
  rw [hpe] at hp
  clear h1 hpe
  refine ac_body Try.func69 rfl (by kernel_rfl) fun w0 ok => ?_; show AWp _ (ctx0 w0 ok _) _ (ARet _ _ _) (entry _)
  (repeat' (first | (with_reducible first | intro hg | refine awp_seq ?_ | refine q_seq ?_ | refine q_blk ?_ | refine awp_block ?_ | refine awp_skip ?_ | refine awp_ret ?_ | refine awp_exit ?_ | refine q_seqE ?_ | refine q_seqR ?_ | refine q_blkR ?_ | refine q_blkE ?_) | ((with_reducible refine awp_region ?_ ?_); (focus exact kr)) | ((with_reducible refine awp_region_any mixed ?_ ?_); (focus exact kr)) | ((with_reducible apply awp_condT); (focus exact rfl); (focus exact tt)) | ((with_reducible apply awp_condF); (focus exact rfl); (focus exact ff)) | ((with_reducible apply awp_condD); (focus exact rfl)) | ((with_reducible apply awp_condN); (focus exact rfl)) | ((with_reducible apply awp_cond); (focus exact rfl)) | ((with_reducible refine q_blkX ?_ ?_); (focus exact rfl)) | ((with_reducible refine r_nil (And.intro ?_ ?_)); (focus exact kr)) | (with_reducible refine r_nil ?_) | ((with_reducible apply r_put); (focus (first | exact dp | exact oc rfl (hp)))) | ((with_reducible apply r_new); (focus exact dn)) | ((with_reducible apply r_app); (focus exact da)) | ((with_reducible apply r_set); (focus exact ds)) | ((with_reducible apply r_putY); (focus exact rfl); (focus exact rfl); (focus exact tf); (focus (first | exact dp | exact oc rfl (hp)))) | ((with_reducible apply r_newY); (focus exact rfl); (focus exact rfl); (focus exact tf); (focus exact dn)) | ((with_reducible apply r_noT); (focus exact rfl); (focus exact rfl); (focus exact ff)) | ((with_reducible apply r_noF); (focus exact rfl); (focus exact rfl); (focus exact tt)) | ((with_reducible apply r_noU); (focus exact rfl); (focus exact rfl)) | ((with_reducible apply r_splitD); (focus exact rfl); (focus exact rfl)) | ((with_reducible apply r_split); (focus exact rfl); (focus exact rfl))))
  refine awp_loopL (α := Nat) (fun k => [(2, .ptr 2 0), (3, .ptr 3 0), (4, .ptr 4 0), (5, .ptr 5 0), (8, .d (I k))]) (fun _ => [(2, ⟨27, [isl xs, I t]⟩), (3, ⟨3, [I r]⟩), (4, ⟨24, [nilV]⟩), (5, ⟨33, [I 0]⟩)])
    (fun k => k = 2 ∨ (k = 3 ∧ ctrN xs t r 2 = none)) (fun k => 5 - k) 2 (.inl rfl) (And.intro rfl (And.intro rfl (And.intro rfl (And.intro rfl (And.intro rfl trivial))))) (And.intro rfl (And.intro rfl (And.intro rfl (And.intro rfl trivial)))) fun k hk => ?_
  have hkn : k ≤ xs.length ∧ 2 ≤ k ∧ k ≤ 3 := by
    rcases hk with rfl | ⟨rfl, hk⟩
    · omega
    · refine ⟨?_, by omega, by omega⟩
      rcases Nat.lt_or_ge xs.length 3 with h | h
      · exfalso
        unfold ctrS at hS
        rw [hk] at hS
        unfold ctrN at hS
        rw [grw_none h] at hS
        cases hS
      · exact h
  obtain ⟨n1, n2, n3⟩ := hkn
  have hsub := subsets_A xs.length k
  (repeat' (first | (with_reducible first | intro hg | refine awp_seq ?_ | refine q_seq ?_ | refine q_blk ?_ | refine awp_block ?_ | refine awp_skip ?_ | refine awp_ret ?_ | refine awp_exit ?_ | refine q_seqE ?_ | refine q_seqR ?_ | refine q_blkR ?_ | refine q_blkE ?_) | ((with_reducible refine awp_region ?_ ?_); (focus exact kr)) | ((with_reducible refine awp_region_any mixed ?_ ?_); (focus exact kr)) | ((with_reducible apply awp_condT); (focus exact rfl); (focus exact tt)) | ((with_reducible apply awp_condF); (focus exact rfl); (focus exact ff)) | ((with_reducible apply awp_condD); (focus exact rfl)) | ((with_reducible apply awp_condN); (focus exact rfl)) | ((with_reducible apply awp_cond); (focus exact rfl)) | ((with_reducible refine q_blkX ?_ ?_); (focus exact rfl)) | ((with_reducible refine r_nil (And.intro ?_ ?_)); (focus exact kr)) | (with_reducible refine r_nil ?_) | ((with_reducible apply r_put); (focus (first | exact dp | exact oc rfl (hsub)))) | ((with_reducible apply r_new); (focus exact dn)) | ((with_reducible apply r_app); (focus exact da)) | ((with_reducible apply r_set); (focus exact ds)) | ((with_reducible apply r_putY); (focus exact rfl); (focus exact rfl); (focus exact tf); (focus (first | exact dp | exact oc rfl (hsub)))) | ((with_reducible apply r_newY); (focus exact rfl); (focus exact rfl); (focus exact tf); (focus exact dn)) | ((with_reducible apply r_noT); (focus exact rfl); (focus exact rfl); (focus exact ff)) | ((with_reducible apply r_noF); (focus exact rfl); (focus exact rfl); (focus exact tt)) | ((with_reducible apply r_noU); (focus exact rfl); (focus exact rfl)) | ((with_reducible apply r_splitD); (focus exact rfl); (focus exact rfl)) | ((with_reducible apply r_split); (focus exact rfl); (focus exact rfl))))
  refine awp_rangeFunc (psl := [35]) (bs := []) (caps := [.ref [I xs.length], .ref [I k]]) (fin := true) (xs := yasG (grw xs.length k [] 0)) (fun j (_ : Unit) => ⟨frL [(2, .ptr 2 0), (3, .ptr 3 0), (4, .ptr 4 0), (5, .ptr 5 0), (8, .d (I k))], memL [(2, ⟨27, [isl xs, I t]⟩), (3, ⟨3, [I r]⟩), (4, ⟨24, [nilV]⟩), (5, ⟨33, [I 0]⟩)]⟩)
    (fun j _ => ∀ l ∈ (grw xs.length k [] 0).take j, phOk xs t r l = true) () (EntI.eq (P := Try.prog) (f := 158)) (.fn rfl) (subsets1_A xs.length k (by omega) (by omega) (by omega)) (by simp) (le_of (And.intro rfl (And.intro rfl (And.intro rfl (And.intro rfl (And.intro rfl trivial))))) (And.intro rfl (And.intro rfl (And.intro rfl (And.intro rfl trivial))))) (by decide) (fun d hd => by obtain ⟨l, _, rfl⟩ := List.mem_map.1 hd; rfl) (fun j _ d hI hd W ok' rd ex gv => ?_) (by simp) (fun _ _ hI => ?_)
  · obtain ⟨hj, rfl⟩ := yasG_at hd
    have hmem : (grw xs.length k [] 0).getD j [] ∈ grw xs.length k [] 0 := by rw [List.getD_eq_getElem?_getD, List.getElem?_eq_getElem hj]; exact List.getElem_mem hj
    have hix := grw_ix (by omega) (by omega) hmem
    have hph := phases_A xs t r _ hix k5 k3 k4 (by omega) r2
    have hnext : phOk xs t r ((grw xs.length k [] 0).getD j []) = true → ∀ l ∈ (grw xs.length k [] 0).take (j + 1), phOk xs t r l = true := fun h l hl => by
      rw [List.take_add_one] at hl
      rcases List.mem_append.1 hl with hl | hl
      · exact hI l hl
      · rw [List.getElem?_eq_getElem hj] at hl
        rw [List.getD_eq_getElem?_getD, List.getElem?_eq_getElem hj] at h
        have : l = (grw xs.length k [] 0)[j] := by simpa using hl
        rw [this]; exact h
    have hfound : phOk xs t r ((grw xs.length k [] 0).getD j []) = false → ctrS xs t r = some ((grw xs.length k [] 0).getD j []) := fun h => by
      have hf : ctrN xs t r k = some ((grw xs.length k [] 0).getD j []) := find_here hj (fun l hl => by rw [hI l hl]; rfl) (by rw [h]; rfl)
      unfold ctrS
      rcases hk with rfl | ⟨rfl, hk⟩
      · rw [hf]; rfl
      · rw [hk, hf]; rfl
    generalize (grw xs.length k [] 0).getD j [] = N at *
    refine awp_cut [(35, .d (isl N)), (2, .ptr 2 0), (3, .ptr 3 0), (4, .ptr 4 0), (5, .ptr 5 0), (8, .d (I k)), (1000002, .ptr 2 0), (1000003, .ptr 3 0), (1000004, .ptr 4 0), (1000005, .ptr 5 0), (1000008, .d (I k))] [(2, ⟨27, [isl xs, I t]⟩), (3, ⟨3, [I r]⟩), (4, ⟨24, [nilV]⟩), (5, ⟨33, [I 0]⟩)] (And.intro rfl (And.intro rfl (And.intro rfl (And.intro rfl (And.intro rfl (And.intro rfl (And.intro rfl (And.intro rfl (And.intro rfl (And.intro rfl (And.intro rfl trivial))))))))))) (And.intro rfl (And.intro rfl (And.intro rfl (And.intro rfl trivial)))) ?_
    (repeat' (first | (with_reducible first | intro hg | refine awp_seq ?_ | refine q_seq ?_ | refine q_blk ?_ | refine awp_block ?_ | refine awp_skip ?_ | refine awp_ret ?_ | refine awp_exit ?_ | refine q_seqE ?_ | refine q_seqR ?_ | refine q_blkR ?_ | refine q_blkE ?_) | ((with_reducible refine awp_region ?_ ?_); (focus exact kr)) | ((with_reducible refine awp_region_any mixed ?_ ?_); (focus exact kr)) | ((with_reducible apply awp_condT); (focus exact rfl); (focus exact tt)) | ((with_reducible apply awp_condF); (focus exact rfl); (focus exact ff)) | ((with_reducible apply awp_condD); (focus exact rfl)) | ((with_reducible apply awp_condN); (focus exact rfl)) | ((with_reducible apply awp_cond); (focus exact rfl)) | ((with_reducible refine q_blkX ?_ ?_); (focus exact rfl)) | ((with_reducible refine r_nil (And.intro ?_ ?_)); (focus exact kr)) | (with_reducible refine r_nil ?_) | ((with_reducible apply r_put); (focus exact dp)) | ((with_reducible apply r_new); (focus exact dn)) | ((with_reducible apply r_app); (focus exact da)) | ((with_reducible apply r_set); (focus exact ds)) | ((with_reducible apply r_putY); (focus exact rfl); (focus exact rfl); (focus exact tf); (focus exact dp)) | ((with_reducible apply r_newY); (focus exact rfl); (focus exact rfl); (focus exact tf); (focus exact dn)) | ((with_reducible apply r_noT); (focus exact rfl); (focus exact rfl); (focus exact ff)) | ((with_reducible apply r_noF); (focus exact rfl); (focus exact rfl); (focus exact tt)) | ((with_reducible apply r_noU); (focus exact rfl); (focus exact rfl)) | ((with_reducible apply r_splitD); (focus exact rfl); (focus exact rfl)) | ((with_reducible apply r_split); (focus exact rfl); (focus exact rfl))))
    refine ⟨rfl, fun W' => ?_⟩
    cases hok : phOk xs t r N
    · rw [hok] at hph
      rw [hres N (hfound hok)]
      (repeat' (first | (with_reducible first | intro hg | refine awp_seq ?_ | refine q_seq ?_ | refine q_blk ?_ | refine awp_block ?_ | refine awp_skip ?_ | refine awp_ret ?_ | refine awp_exit ?_ | refine q_seqE ?_ | refine q_seqR ?_ | refine q_blkR ?_ | refine q_blkE ?_) | ((with_reducible refine awp_region ?_ ?_); (focus exact kr)) | ((with_reducible refine awp_region_any mixed ?_ ?_); (focus exact kr)) | ((with_reducible apply awp_condT); (focus exact rfl); (focus exact tt)) | ((with_reducible apply awp_condF); (focus exact rfl); (focus exact ff)) | ((with_reducible apply awp_condD); (focus exact rfl)) | ((with_reducible apply awp_condN); (focus exact rfl)) | ((with_reducible apply awp_cond); (focus exact rfl)) | ((with_reducible refine q_blkX ?_ ?_); (focus exact rfl)) | ((with_reducible refine r_nil (And.intro ?_ ?_)); (focus exact kr)) | (with_reducible refine r_nil ?_) | ((with_reducible apply r_put); (focus (first | exact dp | exact oc rfl (hph)))) | ((with_reducible apply r_new); (focus exact dn)) | ((with_reducible apply r_app); (focus exact da)) | ((with_reducible apply r_set); (focus exact ds)) | ((with_reducible apply r_putY); (focus exact rfl); (focus exact rfl); (focus exact tf); (focus (first | exact dp | exact oc rfl (hph)))) | ((with_reducible apply r_newY); (focus exact rfl); (focus exact rfl); (focus exact tf); (focus exact dn)) | ((with_reducible apply r_noT); (focus exact rfl); (focus exact rfl); (focus exact ff)) | ((with_reducible apply r_noF); (focus exact rfl); (focus exact rfl); (focus exact tt)) | ((with_reducible apply r_noU); (focus exact rfl); (focus exact rfl)) | ((with_reducible apply r_splitD); (focus exact rfl); (focus exact rfl)) | ((with_reducible apply r_split); (focus exact rfl); (focus exact rfl))))
      refine ⟨trivial, ?_⟩
      show ARet _ _ _ .ret (uns _)
      ((with_reducible first | apply q_retR | apply q_retN); (focus exact rl))
      rfl
    · rw [hok] at hph
      (repeat' (first | (with_reducible first | intro hg | refine awp_seq ?_ | refine q_seq ?_ | refine q_blk ?_ | refine awp_block ?_ | refine awp_skip ?_ | refine awp_ret ?_ | refine awp_exit ?_ | refine q_seqE ?_ | refine q_seqR ?_ | refine q_blkR ?_ | refine q_blkE ?_) | ((with_reducible refine awp_region ?_ ?_); (focus exact kr)) | ((with_reducible refine awp_region_any mixed ?_ ?_); (focus exact kr)) | ((with_reducible apply awp_condT); (focus exact rfl); (focus exact tt)) | ((with_reducible apply awp_condF); (focus exact rfl); (focus exact ff)) | ((with_reducible apply awp_condD); (focus exact rfl)) | ((with_reducible apply awp_condN); (focus exact rfl)) | ((with_reducible apply awp_cond); (focus exact rfl)) | ((with_reducible refine q_blkX ?_ ?_); (focus exact rfl)) | ((with_reducible refine r_nil (And.intro ?_ ?_)); (focus exact kr)) | (with_reducible refine r_nil ?_) | ((with_reducible apply r_put); (focus (first | exact dp | exact oc rfl (hph)))) | ((with_reducible apply r_new); (focus exact dn)) | ((with_reducible apply r_app); (focus exact da)) | ((with_reducible apply r_set); (focus exact ds)) | ((with_reducible apply r_putY); (focus exact rfl); (focus exact rfl); (focus exact tf); (focus (first | exact dp | exact oc rfl (hph)))) | ((with_reducible apply r_newY); (focus exact rfl); (focus exact rfl); (focus exact tf); (focus exact dn)) | ((with_reducible apply r_noT); (focus exact rfl); (focus exact rfl); (focus exact ff)) | ((with_reducible apply r_noF); (focus exact rfl); (focus exact rfl); (focus exact tt)) | ((with_reducible apply r_noU); (focus exact rfl); (focus exact rfl)) | ((with_reducible apply r_splitD); (focus exact rfl); (focus exact rfl)) | ((with_reducible apply r_split); (focus exact rfl); (focus exact rfl))))
      exact ⟨trivial, (), hnext hok, le_of (And.intro rfl (And.intro rfl (And.intro rfl (And.intro rfl (And.intro rfl trivial))))) (And.intro rfl (And.intro rfl (And.intro rfl (And.intro rfl trivial))))⟩
  · have hnone : ctrN xs t r k = none := by
      unfold ctrN
      rw [List.find?_eq_none]
      intro l hl
      have hlen : (yasG (grw xs.length k [] 0)).length = (grw xs.length k [] 0).length := by simp
      rw [hlen, List.take_length] at hI
      rw [hI l hl]; simp
    rcases hk with rfl | ⟨rfl, hk⟩
    · (repeat' (first | (with_reducible first | intro hg | refine awp_seq ?_ | refine q_seq ?_ | refine q_blk ?_ | refine awp_block ?_ | refine awp_skip ?_ | refine awp_ret ?_ | refine awp_exit ?_ | refine q_seqE ?_ | refine q_seqR ?_ | refine q_blkR ?_ | refine q_blkE ?_) | ((with_reducible refine awp_region ?_ ?_); (focus exact kr)) | ((with_reducible refine awp_region_any mixed ?_ ?_); (focus exact kr)) | ((with_reducible apply awp_condT); (focus exact rfl); (focus exact tt)) | ((with_reducible apply awp_condF); (focus exact rfl); (focus exact ff)) | ((with_reducible apply awp_condD); (focus exact rfl)) | ((with_reducible apply awp_condN); (focus exact rfl)) | ((with_reducible apply awp_cond); (focus exact rfl)) | ((with_reducible refine q_blkX ?_ ?_); (focus exact rfl)) | ((with_reducible refine r_nil (And.intro ?_ ?_)); (focus exact kr)) | (with_reducible refine r_nil ?_) | ((with_reducible apply r_put); (focus exact dp)) | ((with_reducible apply r_new); (focus exact dn)) | ((with_reducible apply r_app); (focus exact da)) | ((with_reducible apply r_set); (focus exact ds)) | ((with_reducible apply r_putY); (focus exact rfl); (focus exact rfl); (focus exact tf); (focus exact dp)) | ((with_reducible apply r_newY); (focus exact rfl); (focus exact rfl); (focus exact tf); (focus exact dn)) | ((with_reducible apply r_noT); (focus exact rfl); (focus exact rfl); (focus exact ff)) | ((with_reducible apply r_noF); (focus exact rfl); (focus exact rfl); (focus exact tt)) | ((with_reducible apply r_noU); (focus exact rfl); (focus exact rfl)) | ((with_reducible apply r_splitD); (focus exact rfl); (focus exact rfl)) | ((with_reducible apply r_split); (focus exact rfl); (focus exact rfl))))
      exact ⟨3, .inr ⟨rfl, hnone⟩, by omega, (And.intro rfl (And.intro rfl (And.intro rfl (And.intro rfl (And.intro rfl trivial))))), (And.intro rfl (And.intro rfl (And.intro rfl (And.intro rfl trivial))))⟩
    · exfalso
      unfold ctrS at hS
      rw [hk, hnone] at hS
      cases hS

end Go.Proofs.Ytemihhkbieplmaa
