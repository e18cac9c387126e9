/- The smallest box that is kept: walk. -/
import Derived.Test.YtfcfmpdpjmbcnaaGreatUh
set_option linter.unusedVariables false
set_option linter.unusedSimpArgs false
namespace Go.Proofs.YtfcfmpdpjmbcnaaGreat
open Go.RowKit
set_option maxRecDepth 20000
set_option maxHeartbeats 8000000

/-- Whether the range at an index leaves that of a box. -/
def lvB (N B : List (Int × Int)) (i : Nat) : Bool := decide (bLo N i < bLo B i) || decide (bHi B i < bHi N i)
theorem leaves_A (N B : List (Int × Int)) (hl : N.length = B.length) (hm : N.length ≤ 1000) : AC Tryz.prog 77 [rgV N, rgV B] (I (fstI (lvB N B) N.length)) := by
  refine ac_body Tryz.func77 rfl (by kernel_rfl) fun w0 ok => ?_; show AWp _ (ctx0 w0 ok _) _ (ARet _ _ _) (entry _)
  (repeat' (first | (with_reducible first | intro hg | refine mv (by constructor) ?_) | ((with_reducible first | refine zR ?_ ?_ | refine zW mixed ?_ ?_); exact kr) | ((with_reducible apply zK); exact rfl; exact tf) | ((with_reducible apply zCD); exact rfl) | ((with_reducible apply zCN); exact rfl) | ((with_reducible apply zC); exact rfl) | ((with_reducible refine zX ?_ ?_); exact rfl) | ((with_reducible refine zE (And.intro ?_ ?_)); exact kr) | (with_reducible refine zE ?_) | ((with_reducible apply zP); exact dp) | ((with_reducible apply zN); exact dn) | ((with_reducible apply zA); exact da) | ((with_reducible apply zS); exact ds) | ((with_reducible apply zY); exact rfl; exact rfl; exact tf) | ((with_reducible apply zG); exact rfl; exact rfl; exact tf) | ((with_reducible apply zU); exact rfl; exact rfl) | ((with_reducible apply zD); exact rfl; exact rfl) | ((with_reducible apply zB); exact rfl; exact rfl)))
  refine awp_loopL (α := Nat) (fun k => [(1, .d (rgV B)), (7, .d (rgV N)), (8, .d (I N.length)), (9, .d (I k))]) (fun _ => []) (fun k => k ≤ N.length ∧ ∀ i, i < k → lvB N B i = false) (fun k => N.length - k) 0 ⟨Nat.zero_le _, fun i hi => absurd hi (Nat.not_lt_zero i)⟩ (And.intro rfl (And.intro rfl (And.intro rfl (And.intro rfl trivial)))) trivial fun k ⟨hk, hB⟩ => ?_
  by_cases hlt : k < N.length
  · have hlB : k < B.length := by omega
    by_cases h1 : (N.getD k rg0).1 < (B.getD k rg0).1
    · have e : fstI (lvB N B) N.length = k := fstI_pos hlt (by unfold lvB; rw [decide_eq_true h1]; rfl) hB
      rw [e]
      (repeat' (first | (with_reducible first | intro hg | refine mv (by constructor) ?_) | ((with_reducible first | refine zR ?_ ?_ | refine zW mixed ?_ ?_); exact kr) | ((with_reducible apply zK); exact rfl; exact tf) | ((with_reducible apply zCD); exact rfl) | ((with_reducible apply zCN); exact rfl) | ((with_reducible apply zC); exact rfl) | ((with_reducible refine zX ?_ ?_); exact rfl) | ((with_reducible refine zE (And.intro ?_ ?_)); exact kr) | (with_reducible refine zE ?_) | ((with_reducible apply zP); (first | exact o_indexF rg0 frC_len (by decide) rfl rfl (by omega) rfl | exact dp)) | ((with_reducible apply zN); exact dn) | ((with_reducible apply zA); exact da) | ((with_reducible apply zS); exact ds) | ((with_reducible apply zY); exact rfl; exact rfl; exact tf) | ((with_reducible apply zG); exact rfl; exact rfl; exact tf) | ((with_reducible apply zU); exact rfl; exact rfl) | ((with_reducible apply zD); exact rfl; exact rfl) | ((with_reducible apply zB); exact rfl; exact rfl)))
      ((with_reducible first | apply q_retR | apply q_retN); exact rl)
      rfl
    · by_cases h2 : (B.getD k rg0).2 < (N.getD k rg0).2
      · have e : fstI (lvB N B) N.length = k := fstI_pos hlt (by unfold lvB; rw [decide_eq_true h2, Bool.or_true]) hB
        rw [e]
        (repeat' (first | (with_reducible first | intro hg | refine mv (by constructor) ?_) | ((with_reducible first | refine zR ?_ ?_ | refine zW mixed ?_ ?_); exact kr) | ((with_reducible apply zK); exact rfl; exact tf) | ((with_reducible apply zCD); exact rfl) | ((with_reducible apply zCN); exact rfl) | ((with_reducible apply zC); exact rfl) | ((with_reducible refine zX ?_ ?_); exact rfl) | ((with_reducible refine zE (And.intro ?_ ?_)); exact kr) | (with_reducible refine zE ?_) | ((with_reducible apply zP); (first | exact o_indexF rg0 frC_len (by decide) rfl rfl (by omega) rfl | exact dp)) | ((with_reducible apply zN); exact dn) | ((with_reducible apply zA); exact da) | ((with_reducible apply zS); exact ds) | ((with_reducible apply zY); exact rfl; exact rfl; exact tf) | ((with_reducible apply zG); exact rfl; exact rfl; exact tf) | ((with_reducible apply zU); exact rfl; exact rfl) | ((with_reducible apply zD); exact rfl; exact rfl) | ((with_reducible apply zB); exact rfl; exact rfl)))
        ((with_reducible first | apply q_retR | apply q_retN); exact rl)
        rfl
      · have e : lvB N B k = false := by unfold lvB; rw [decide_eq_false h1, decide_eq_false h2]; rfl
        (repeat' (first | (with_reducible first | intro hg | refine mv (by constructor) ?_) | ((with_reducible first | refine zR ?_ ?_ | refine zW mixed ?_ ?_); exact kr) | ((with_reducible apply zK); exact rfl; exact tf) | ((with_reducible apply zCD); exact rfl) | ((with_reducible apply zCN); exact rfl) | ((with_reducible apply zC); exact rfl) | ((with_reducible refine zX ?_ ?_); exact rfl) | ((with_reducible refine zE (And.intro ?_ ?_)); exact kr) | (with_reducible refine zE ?_) | ((with_reducible apply zP); (first | exact o_indexF rg0 frC_len (by decide) rfl rfl (by omega) rfl | exact dp)) | ((with_reducible apply zN); exact dn) | ((with_reducible apply zA); exact da) | ((with_reducible apply zS); exact ds) | ((with_reducible apply zY); exact rfl; exact rfl; exact tf) | ((with_reducible apply zG); exact rfl; exact rfl; exact tf) | ((with_reducible apply zU); exact rfl; exact rfl) | ((with_reducible apply zD); exact rfl; exact rfl) | ((with_reducible apply zB); exact rfl; exact rfl)))
        refine ⟨k + 1, ⟨hlt, fun i hi => ?_⟩, by omega, (And.intro rfl (And.intro rfl (And.intro rfl (And.intro rfl trivial)))), trivial⟩
        by_cases ei : i = k
        · rw [ei]; exact e
        · exact hB i (by omega)
  · rw [fstI_neg fun i hi => hB i (by omega)]
    (repeat' (first | (with_reducible first | intro hg | refine mv (by constructor) ?_) | ((with_reducible first | refine zR ?_ ?_ | refine zW mixed ?_ ?_); exact kr) | ((with_reducible apply zK); exact rfl; exact tf) | ((with_reducible apply zCD); exact rfl) | ((with_reducible apply zCN); exact rfl) | ((with_reducible apply zC); exact rfl) | ((with_reducible refine zX ?_ ?_); exact rfl) | ((with_reducible refine zE (And.intro ?_ ?_)); exact kr) | (with_reducible refine zE ?_) | ((with_reducible apply zP); exact dp) | ((with_reducible apply zN); exact dn) | ((with_reducible apply zA); exact da) | ((with_reducible apply zS); exact ds) | ((with_reducible apply zY); exact rfl; exact rfl; exact tf) | ((with_reducible apply zG); exact rfl; exact rfl; exact tf) | ((with_reducible apply zU); exact rfl; exact rfl) | ((with_reducible apply zD); exact rfl; exact rfl) | ((with_reducible apply zB); exact rfl; exact rfl)))
    ((with_reducible first | apply q_retR | apply q_retN); exact rl)
    rfl
theorem beq0_t {x : Int} (h : x = 0) : (x == 0) = true := beq_iff_eq.2 h
theorem beq0_f {x : Int} (h : ¬ x = 0) : (x == 0) = false := by rw [Bool.eq_false_iff]; exact fun h2 => h (eq_of_beq h2)
/-! Which chains are valid. -/
def lpR (x : Lp) : Bool := !([x.tgt, x.dlo, x.dhi, x.llo, x.lhi].any fun n => !inR n (-1000) 1000) && inR x.num 0 100 && inR x.den 1 100
/-- The error of a looper. -/
def lpE (x : Lp) : Int := fst0 [unl (lpR x) 2, unl (decide (x.num ≤ x.den)) 3, unl (decide (x.dlo ≤ x.dhi) && decide (x.llo ≤ x.lhi)) 9, unl (inR x.tgt x.llo x.lhi) 22]
theorem lpE_ok {x : Lp} (h : lpE x = 0) : LpOk x := by
  obtain ⟨h1, h⟩ := fst0_cons h
  obtain ⟨h2, h⟩ := fst0_cons h
  obtain ⟨h3, h⟩ := fst0_cons h
  rw [fst0_one] at h
  have h1 := unl_ok (by decide) h1
  have h2 := unl_ok (by decide) h2
  have h3 := unl_ok (by decide) h3
  have h4 := unl_ok (by decide) h
  unfold lpR at h1
  simp only [Bool.and_eq_true, inR_true, decide_eq_true_eq] at h1 h2 h3 h4
  have h0 := all_of_any h1.1.1
  simp only [List.mem_cons, List.not_mem_nil, or_false, forall_eq_or_imp, forall_eq, inR_true] at h0
  exact ⟨by omega, by omega, by omega, by omega, by omega, by omega, by omega, h2, h3.1, h3.2, by omega⟩
def lpsE : List Lp → Nat → Int × Int
  | [], _ => (0, 0)
  | x :: l, k => bif lpE x == 0 then lpsE l (k + 1) else ((k : Int), lpE x)
/-- The index and the error of a chain. -/
def chE (L : List Lp) : Int × Int := bif fst0 [unl (decide (0 < (L.length : Int))) 10, unl (decide ((L.length : Int) ≤ 5)) 8] == 0 then lpsE L 0 else (0, fst0 [unl (decide (0 < (L.length : Int))) 10, unl (decide ((L.length : Int) ≤ 5)) 8])
theorem lpsE_ok : ∀ {L : List Lp} {k : Nat}, (lpsE L k).2 = 0 → ∀ x ∈ L, LpOk x
  | [], _, _, x, hx => by simp at hx
  | y :: L, k, h, x, hx => by
    unfold lpsE at h
    by_cases he : lpE y = 0
    · rw [beq0_t he] at h
      rcases List.mem_cons.1 hx with rfl | hx
      · exact lpE_ok he
      · exact lpsE_ok h x hx
    · rw [beq0_f he] at h
      exact absurd h he
theorem chE_ok {L : List Lp} (h : (chE L).2 = 0) : 0 < L.length ∧ L.length ≤ 5 ∧ ∀ x ∈ L, LpOk x := by
  unfold chE at h
  by_cases h0 : fst0 [unl (decide (0 < (L.length : Int))) 10, unl (decide ((L.length : Int) ≤ 5)) 8] = 0
  · rw [beq0_t h0] at h
    obtain ⟨h1, h2⟩ := fst0_cons h0
    rw [fst0_one] at h2
    have h1 := of_decide_eq_true (unl_ok (by decide) h1)
    have h2 := of_decide_eq_true (unl_ok (by decide) h2)
    exact ⟨by omega, by omega, lpsE_ok h⟩
  · rw [beq0_f h0] at h
    exact absurd h h0
theorem chk1_A (n : Int) : AC Tryz.prog 125 ([I n] ++ []) (B (!inR n (-1000) 1000)) := by
  refine ac_body Tryz.func125 rfl (by kernel_rfl) fun w0 ok => ?_; show AWp _ (ctx0 w0 ok _) _ (ARet _ _ _) (entry _)
  (repeat' (first | (with_reducible first | intro hg | refine mv (by constructor) ?_) | ((with_reducible first | refine zR ?_ ?_ | refine zW mixed ?_ ?_); exact kr) | ((with_reducible apply zK); exact rfl; exact tf) | ((with_reducible apply zCD); exact rfl) | ((with_reducible apply zCN); exact rfl) | ((with_reducible apply zC); exact rfl) | ((with_reducible refine zX ?_ ?_); exact rfl) | ((with_reducible refine zE (And.intro ?_ ?_)); exact kr) | (with_reducible refine zE ?_) | ((with_reducible apply zP); (first | exact dp | exact oc rfl (isSized_A _ _ ⟨by decide, by decide⟩))) | ((with_reducible apply zN); exact dn) | ((with_reducible apply zA); exact da) | ((with_reducible apply zS); exact ds) | ((with_reducible apply zY); exact rfl; exact rfl; exact tf) | ((with_reducible apply zG); exact rfl; exact rfl; exact tf) | ((with_reducible apply zU); exact rfl; exact rfl) | ((with_reducible apply zD); exact rfl; exact rfl) | ((with_reducible apply zB); exact rfl; exact rfl)))
  ((with_reducible first | apply q_retR | apply q_retN); exact rl)
  rfl
theorem drop_lp {L : List Lp} {k : Nat} (h : k < L.length) : L.drop k = lpA L k :: L.drop (k + 1) := by
  rw [List.drop_eq_getElem_cons h]
  show _ = L.getD k lp0 :: _
  rw [List.getD_eq_getElem?_getD, List.getElem?_eq_getElem h]; rfl
theorem checkChain_A (L : List Lp) (hm : L.length ≤ 140737488355328) : AC Tryz.prog 106 [chV L] (.tuple [I (chE L).1, I (chE L).2]) := by
  have hf := first2_A (unl (decide (0 < (L.length : Int))) 10) (unl (decide ((L.length : Int) ≤ 5)) 8)
  by_cases h0 : fst0 [unl (decide (0 < (L.length : Int))) 10, unl (decide ((L.length : Int) ≤ 5)) 8] = 0
  rotate_left
  · have e : chE L = (0, fst0 [unl (decide (0 < (L.length : Int))) 10, unl (decide ((L.length : Int) ≤ 5)) 8]) := by
      unfold chE
      rw [beq0_f h0]; rfl
    rw [e]
    refine ac_body Tryz.func106 rfl (by kernel_rfl) fun w0 ok => ?_; show AWp _ (ctx0 w0 ok _) _ (ARet _ _ _) (entry _)
    (repeat' (first | (with_reducible first | intro hg | refine mv (by constructor) ?_) | ((with_reducible first | refine zR ?_ ?_ | refine zW mixed ?_ ?_); exact kr) | ((with_reducible apply zK); exact rfl; exact tf) | ((with_reducible apply zCD); exact rfl) | ((with_reducible apply zCN); exact rfl) | ((with_reducible apply zC); exact rfl) | ((with_reducible refine zX ?_ ?_); exact rfl) | ((with_reducible refine zE (And.intro ?_ ?_)); exact kr) | (with_reducible refine zE ?_) | ((with_reducible apply zP); (first | exact dp | exact oc rfl (hf) | exact oc rfl (unless_A _ _))) | ((with_reducible apply zN); exact dn) | ((with_reducible apply zA); exact da) | ((with_reducible apply zS); exact ds) | ((with_reducible apply zY); exact rfl; exact rfl; exact tf) | ((with_reducible apply zG); exact rfl; exact rfl; exact tf) | ((with_reducible apply zU); exact rfl; exact rfl) | ((with_reducible apply zD); exact rfl; exact rfl) | ((with_reducible apply zB); exact rfl; exact rfl)))
    ((with_reducible first | apply q_retR | apply q_retN); exact rl)
    rfl
  have e : chE L = lpsE L 0 := by
    unfold chE
    rw [beq0_t h0]; rfl
  rw [e]
  rw [h0] at hf
  refine ac_body Tryz.func106 rfl (by kernel_rfl) fun w0 ok => ?_; show AWp _ (ctx0 w0 ok _) _ (ARet _ _ _) (entry _)
  (repeat' (first | (with_reducible first | intro hg | refine mv (by constructor) ?_) | ((with_reducible first | refine zR ?_ ?_ | refine zW mixed ?_ ?_); exact kr) | ((with_reducible apply zK); exact rfl; exact tf) | ((with_reducible apply zCD); exact rfl) | ((with_reducible apply zCN); exact rfl) | ((with_reducible apply zC); exact rfl) | ((with_reducible refine zX ?_ ?_); exact rfl) | ((with_reducible refine zE (And.intro ?_ ?_)); exact kr) | (with_reducible refine zE ?_) | ((with_reducible apply zP); (first | exact dp | exact oc rfl (hf) | exact oc rfl (unless_A _ _))) | ((with_reducible apply zN); exact dn) | ((with_reducible apply zA); exact da) | ((with_reducible apply zS); exact ds) | ((with_reducible apply zY); exact rfl; exact rfl; exact tf) | ((with_reducible apply zG); exact rfl; exact rfl; exact tf) | ((with_reducible apply zU); exact rfl; exact rfl) | ((with_reducible apply zD); exact rfl; exact rfl) | ((with_reducible apply zB); exact rfl; exact rfl)))
  refine awp_loopL (α := Nat) (fun k => [(26, .d (.slice L.length (lpS L))), (27, .d (I L.length)), (28, .d (I k))]) (fun _ => []) (fun k => k ≤ L.length ∧ lpsE L 0 = lpsE (L.drop k) k) (fun k => L.length - k) 0 ⟨Nat.zero_le _, rfl⟩ (And.intro rfl (And.intro rfl (And.intro rfl trivial))) trivial fun k ⟨hk, hE⟩ => ?_
  by_cases hlt : k < L.length
  rotate_left
  · rw [hE, List.drop_of_length_le (by omega)]
    (repeat' (first | (with_reducible first | intro hg | refine mv (by constructor) ?_) | ((with_reducible first | refine zR ?_ ?_ | refine zW mixed ?_ ?_); exact kr) | ((with_reducible apply zK); exact rfl; exact tf) | ((with_reducible apply zCD); exact rfl) | ((with_reducible apply zCN); exact rfl) | ((with_reducible apply zC); exact rfl) | ((with_reducible refine zX ?_ ?_); exact rfl) | ((with_reducible refine zE (And.intro ?_ ?_)); exact kr) | (with_reducible refine zE ?_) | ((with_reducible apply zP); exact dp) | ((with_reducible apply zN); exact dn) | ((with_reducible apply zA); exact da) | ((with_reducible apply zS); exact ds) | ((with_reducible apply zY); exact rfl; exact rfl; exact tf) | ((with_reducible apply zG); exact rfl; exact rfl; exact tf) | ((with_reducible apply zU); exact rfl; exact rfl) | ((with_reducible apply zD); exact rfl; exact rfl) | ((with_reducible apply zB); exact rfl; exact rfl)))
    ((with_reducible first | apply q_retR | apply q_retN); exact rl)
    rfl
  rw [drop_lp hlt] at hE
  have hE : lpsE L 0 = bif lpE (L.getD k lp0) == 0 then lpsE (L.drop (k + 1)) (k + 1) else ((k : Int), lpE (L.getD k lp0)) := hE
  generalize lpsE L 0 = E at *
  have hany := containsFunc_A 125 (EntI.eq (P := Tryz.prog) (f := 125)) .val (fun n => !inR n (-1000) 1000) [(L.getD k lp0).tgt, (L.getD k lp0).dlo, (L.getD k lp0).dhi, (L.getD k lp0).llo, (L.getD k lp0).lhi] (by simp) (fun x _ => chk1_A x)
  have w1 := within_A (L.getD k lp0).num 0 100
  have w2 := within_A (L.getD k lp0).den 1 100
  have w3 := isIn_A (L.getD k lp0).tgt (L.getD k lp0).llo (L.getD k lp0).lhi
  have hR : lpR (L.getD k lp0) = (!([(L.getD k lp0).tgt, (L.getD k lp0).dlo, (L.getD k lp0).dhi, (L.getD k lp0).llo, (L.getD k lp0).lhi].any fun n => !inR n (-1000) 1000) && inR (L.getD k lp0).num 0 100 && inR (L.getD k lp0).den 1 100) := rfl
  have hLE : lpE (L.getD k lp0) = fst0 [unl (lpR (L.getD k lp0)) 2, unl (decide ((L.getD k lp0).num ≤ (L.getD k lp0).den)) 3, unl (decide ((L.getD k lp0).dlo ≤ (L.getD k lp0).dhi) && decide ((L.getD k lp0).llo ≤ (L.getD k lp0).lhi)) 9, unl (inR (L.getD k lp0).tgt (L.getD k lp0).llo (L.getD k lp0).lhi) 22] := rfl
  generalize lpE (L.getD k lp0) = le at *
  generalize lpR (L.getD k lp0) = rr at *
  generalize ([(L.getD k lp0).tgt, (L.getD k lp0).dlo, (L.getD k lp0).dhi, (L.getD k lp0).llo, (L.getD k lp0).lhi].any fun n => !inR n (-1000) 1000) = sb at *
  generalize inR (L.getD k lp0).num 0 100 = b1 at *
  generalize inR (L.getD k lp0).den 1 100 = b2 at *
  generalize inR (L.getD k lp0).tgt (L.getD k lp0).llo (L.getD k lp0).lhi = b3 at *
  (repeat' ((fail_if_success (with_reducible show AWp _ _ (.seq (.region 8 _ _) _) _ _)); (first | (with_reducible first | intro hg | refine mv (by constructor) ?_) | ((with_reducible first | refine zR ?_ ?_ | refine zW mixed ?_ ?_); exact kr) | ((with_reducible apply zK); exact rfl; exact tf) | ((with_reducible apply zCD); exact rfl) | ((with_reducible apply zCN); exact rfl) | ((with_reducible apply zC); exact rfl) | ((with_reducible refine zX ?_ ?_); exact rfl) | ((with_reducible refine zE (And.intro ?_ ?_)); exact kr) | (with_reducible refine zE ?_) | ((with_reducible apply zP); (first | exact o_indexF lp0 lpC_len (by decide) rfl rfl (by omega) rfl | exact dp | exact oc rfl (hany))) | ((with_reducible apply zN); exact dn) | ((with_reducible apply zA); exact da) | ((with_reducible apply zS); exact ds) | ((with_reducible apply zY); exact rfl; exact rfl; exact tf) | ((with_reducible apply zG); exact rfl; exact rfl; exact tf) | ((with_reducible apply zU); exact rfl; exact rfl) | ((with_reducible apply zD); exact rfl; exact rfl) | ((with_reducible apply zB); exact rfl; exact rfl))))
  refine awp_seqK (fun u => leF u [(5, .d (I k)), (6, .ptr 6 0), (8, .d (B rr)), (26, .d (.slice L.length (lpS L))), (27, .d (I L.length)), (28, .d (I k))] ∧ leM u [(6, ⟨124, lpC (L.getD k lp0)⟩)]) ?_ fun u ⟨hu1, hu2⟩ => awp_weaken (le_of hu1 hu2) ?_
  · rw [hR]
    clear hE hLE
    cases sb
    · cases b1
      · (repeat' (first | (with_reducible first | intro hg | refine mv (by constructor) ?_) | ((with_reducible first | refine zR ?_ ?_ | refine zW mixed ?_ ?_); exact kr) | ((with_reducible apply zK); exact rfl; exact tf) | ((with_reducible apply zCD); exact rfl) | ((with_reducible apply zCN); exact rfl) | ((with_reducible apply zC); exact rfl) | ((with_reducible refine zX ?_ ?_); exact rfl) | ((with_reducible refine zE (And.intro ?_ ?_)); exact kr) | (with_reducible refine zE ?_) | ((with_reducible apply zP); (first | exact dp | exact oc rfl (w1))) | ((with_reducible apply zN); exact dn) | ((with_reducible apply zA); exact da) | ((with_reducible apply zS); exact ds) | ((with_reducible apply zY); exact rfl; exact rfl; exact tf) | ((with_reducible apply zG); exact rfl; exact rfl; exact tf) | ((with_reducible apply zU); exact rfl; exact rfl) | ((with_reducible apply zD); exact rfl; exact rfl) | ((with_reducible apply zB); exact rfl; exact rfl)))
        exact ⟨(And.intro rfl (And.intro rfl (And.intro rfl (And.intro rfl (And.intro rfl (And.intro rfl trivial)))))), (And.intro rfl trivial)⟩
      · (repeat' (first | (with_reducible first | intro hg | refine mv (by constructor) ?_) | ((with_reducible first | refine zR ?_ ?_ | refine zW mixed ?_ ?_); exact kr) | ((with_reducible apply zK); exact rfl; exact tf) | ((with_reducible apply zCD); exact rfl) | ((with_reducible apply zCN); exact rfl) | ((with_reducible apply zC); exact rfl) | ((with_reducible refine zX ?_ ?_); exact rfl) | ((with_reducible refine zE (And.intro ?_ ?_)); exact kr) | (with_reducible refine zE ?_) | ((with_reducible apply zP); (first | exact dp | exact oc rfl (w1) | exact oc rfl (w2))) | ((with_reducible apply zN); exact dn) | ((with_reducible apply zA); exact da) | ((with_reducible apply zS); exact ds) | ((with_reducible apply zY); exact rfl; exact rfl; exact tf) | ((with_reducible apply zG); exact rfl; exact rfl; exact tf) | ((with_reducible apply zU); exact rfl; exact rfl) | ((with_reducible apply zD); exact rfl; exact rfl) | ((with_reducible apply zB); exact rfl; exact rfl)))
        exact ⟨(And.intro rfl (And.intro rfl (And.intro rfl (And.intro rfl (And.intro rfl (And.intro rfl trivial)))))), (And.intro rfl trivial)⟩
    · (repeat' (first | (with_reducible first | intro hg | refine mv (by constructor) ?_) | ((with_reducible first | refine zR ?_ ?_ | refine zW mixed ?_ ?_); exact kr) | ((with_reducible apply zK); exact rfl; exact tf) | ((with_reducible apply zCD); exact rfl) | ((with_reducible apply zCN); exact rfl) | ((with_reducible apply zC); exact rfl) | ((with_reducible refine zX ?_ ?_); exact rfl) | ((with_reducible refine zE (And.intro ?_ ?_)); exact kr) | (with_reducible refine zE ?_) | ((with_reducible apply zP); exact dp) | ((with_reducible apply zN); exact dn) | ((with_reducible apply zA); exact da) | ((with_reducible apply zS); exact ds) | ((with_reducible apply zY); exact rfl; exact rfl; exact tf) | ((with_reducible apply zG); exact rfl; exact rfl; exact tf) | ((with_reducible apply zU); exact rfl; exact rfl) | ((with_reducible apply zD); exact rfl; exact rfl) | ((with_reducible apply zB); exact rfl; exact rfl)))
      exact ⟨(And.intro rfl (And.intro rfl (And.intro rfl (And.intro rfl (And.intro rfl (And.intro rfl trivial)))))), (And.intro rfl trivial)⟩
  · clear w1 w2 hany hR
    have hf4 := first4_A (unl rr 2) (unl (decide ((L.getD k lp0).num ≤ (L.getD k lp0).den)) 3) (unl (decide ((L.getD k lp0).dlo ≤ (L.getD k lp0).dhi) && decide ((L.getD k lp0).llo ≤ (L.getD k lp0).lhi)) 9) (unl b3 22)
    rw [← hLE] at hf4
    clear hLE
    by_cases g1 : (L.getD k lp0).dlo ≤ (L.getD k lp0).dhi
    · rw [decide_eq_true g1, Bool.true_and] at hf4
      by_cases he : le = 0
      · rw [beq0_t he, cond_true] at hE
        (repeat' (first | (with_reducible first | intro hg | refine mv (by constructor) ?_) | ((with_reducible first | refine zR ?_ ?_ | refine zW mixed ?_ ?_); exact kr) | ((with_reducible apply zK); exact rfl; exact tf) | ((with_reducible apply zCD); exact rfl) | ((with_reducible apply zCN); exact rfl) | ((with_reducible apply zC); exact rfl) | ((with_reducible refine zX ?_ ?_); exact rfl) | ((with_reducible refine zE (And.intro ?_ ?_)); exact kr) | (with_reducible refine zE ?_) | ((with_reducible apply zP); (first | exact dp | exact oc rfl (hf4) | exact oc rfl (w3) | exact oc rfl (unless_A _ _))) | ((with_reducible apply zN); exact dn) | ((with_reducible apply zA); exact da) | ((with_reducible apply zS); exact ds) | ((with_reducible apply zY); exact rfl; exact rfl; exact tf) | ((with_reducible apply zG); exact rfl; exact rfl; exact tf) | ((with_reducible apply zU); exact rfl; exact rfl) | ((with_reducible apply zD); exact rfl; exact rfl) | ((with_reducible apply zB); exact rfl; exact rfl)))
        exact ⟨k + 1, ⟨hlt, hE⟩, by omega, (And.intro rfl (And.intro rfl (And.intro rfl trivial))), trivial⟩
      · rw [beq0_f he, cond_false] at hE
        rw [hE]
        (repeat' (first | (with_reducible first | intro hg | refine mv (by constructor) ?_) | ((with_reducible first | refine zR ?_ ?_ | refine zW mixed ?_ ?_); exact kr) | ((with_reducible apply zK); exact rfl; exact tf) | ((with_reducible apply zCD); exact rfl) | ((with_reducible apply zCN); exact rfl) | ((with_reducible apply zC); exact rfl) | ((with_reducible refine zX ?_ ?_); exact rfl) | ((with_reducible refine zE (And.intro ?_ ?_)); exact kr) | (with_reducible refine zE ?_) | ((with_reducible apply zP); (first | exact dp | exact oc rfl (hf4) | exact oc rfl (w3) | exact oc rfl (unless_A _ _))) | ((with_reducible apply zN); exact dn) | ((with_reducible apply zA); exact da) | ((with_reducible apply zS); exact ds) | ((with_reducible apply zY); exact rfl; exact rfl; exact tf) | ((with_reducible apply zG); exact rfl; exact rfl; exact tf) | ((with_reducible apply zU); exact rfl; exact rfl) | ((with_reducible apply zD); exact rfl; exact rfl) | ((with_reducible apply zB); exact rfl; exact rfl)))
        ((with_reducible first | apply q_retR | apply q_retN); exact rl)
        rfl
    · rw [decide_eq_false g1, Bool.false_and] at hf4
      by_cases he : le = 0
      · rw [beq0_t he, cond_true] at hE
        (repeat' (first | (with_reducible first | intro hg | refine mv (by constructor) ?_) | ((with_reducible first | refine zR ?_ ?_ | refine zW mixed ?_ ?_); exact kr) | ((with_reducible apply zK); exact rfl; exact tf) | ((with_reducible apply zCD); exact rfl) | ((with_reducible apply zCN); exact rfl) | ((with_reducible apply zC); exact rfl) | ((with_reducible refine zX ?_ ?_); exact rfl) | ((with_reducible refine zE (And.intro ?_ ?_)); exact kr) | (with_reducible refine zE ?_) | ((with_reducible apply zP); (first | exact dp | exact oc rfl (hf4) | exact oc rfl (w3) | exact oc rfl (unless_A _ _))) | ((with_reducible apply zN); exact dn) | ((with_reducible apply zA); exact da) | ((with_reducible apply zS); exact ds) | ((with_reducible apply zY); exact rfl; exact rfl; exact tf) | ((with_reducible apply zG); exact rfl; exact rfl; exact tf) | ((with_reducible apply zU); exact rfl; exact rfl) | ((with_reducible apply zD); exact rfl; exact rfl) | ((with_reducible apply zB); exact rfl; exact rfl)))
        exact ⟨k + 1, ⟨hlt, hE⟩, by omega, (And.intro rfl (And.intro rfl (And.intro rfl trivial))), trivial⟩
      · rw [beq0_f he, cond_false] at hE
        rw [hE]
        (repeat' (first | (with_reducible first | intro hg | refine mv (by constructor) ?_) | ((with_reducible first | refine zR ?_ ?_ | refine zW mixed ?_ ?_); exact kr) | ((with_reducible apply zK); exact rfl; exact tf) | ((with_reducible apply zCD); exact rfl) | ((with_reducible apply zCN); exact rfl) | ((with_reducible apply zC); exact rfl) | ((with_reducible refine zX ?_ ?_); exact rfl) | ((with_reducible refine zE (And.intro ?_ ?_)); exact kr) | (with_reducible refine zE ?_) | ((with_reducible apply zP); (first | exact dp | exact oc rfl (hf4) | exact oc rfl (w3) | exact oc rfl (unless_A _ _))) | ((with_reducible apply zN); exact dn) | ((with_reducible apply zA); exact da) | ((with_reducible apply zS); exact ds) | ((with_reducible apply zY); exact rfl; exact rfl; exact tf) | ((with_reducible apply zG); exact rfl; exact rfl; exact tf) | ((with_reducible apply zU); exact rfl; exact rfl) | ((with_reducible apply zD); exact rfl; exact rfl) | ((with_reducible apply zB); exact rfl; exact rfl)))
        ((with_reducible first | apply q_retR | apply q_retN); exact rl)
        rfl
theorem open_A (L : List Lp) (hm : L.length ≤ 140737488355328) : AC Tryz.prog 74 [chV L] (.tuple [chV L, I (chE L).2]) := by
  have h := checkChain_A L hm
  refine ac_body Tryz.func74 rfl (by kernel_rfl) fun w0 ok => ?_; show AWp _ (ctx0 w0 ok _) _ (ARet _ _ _) (entry _)
  (repeat' (first | (with_reducible first | intro hg | refine mv (by constructor) ?_) | ((with_reducible first | refine zR ?_ ?_ | refine zW mixed ?_ ?_); exact kr) | ((with_reducible apply zK); exact rfl; exact tf) | ((with_reducible apply zCD); exact rfl) | ((with_reducible apply zCN); exact rfl) | ((with_reducible apply zC); exact rfl) | ((with_reducible refine zX ?_ ?_); exact rfl) | ((with_reducible refine zE (And.intro ?_ ?_)); exact kr) | (with_reducible refine zE ?_) | ((with_reducible apply zP); (first | exact dp | exact oc rfl (h))) | ((with_reducible apply zN); exact dn) | ((with_reducible apply zA); exact da) | ((with_reducible apply zS); exact ds) | ((with_reducible apply zY); exact rfl; exact rfl; exact tf) | ((with_reducible apply zG); exact rfl; exact rfl; exact tf) | ((with_reducible apply zU); exact rfl; exact rfl) | ((with_reducible apply zD); exact rfl; exact rfl) | ((with_reducible apply zB); exact rfl; exact rfl)))
  ((with_reducible first | apply q_retR | apply q_retN); exact rl)
  rfl

end Go.Proofs.YtfcfmpdpjmbcnaaGreat
