/- Contours: worn by strips: walks. -/
import Derived.Test.YtagpmpbmfjaiiaaGreatDoorTi
set_option linter.unusedVariables false
set_option linter.unusedSimpArgs false
namespace Go.Proofs.YtagpmpbmfjaiiaaGreatDoor
open Go.RowKit
set_option maxRecDepth 20000
set_option maxHeartbeats 8000000

/-- The error of a contour and of a number of strips. -/
def wrnE (c : List (Int × Int)) (l : List Strp) : Int := fst0 [(contE c).2, unl (decide ((l.length : Int) ≤ 20)) 8]
/-- How high a contour is. -/
def HtB (X : List (Int × Int)) (m : Int) : Prop := ∀ p ∈ X, -m ≤ p.2 ∧ p.2 ≤ m
theorem HtB.get {X : List (Int × Int)} {m : Int} (h : HtB X m) {k : Nat} (hk : k < X.length) : -m ≤ (X.getD k f0).2 ∧ (X.getD k f0).2 ≤ m := h _ (getF_mem hk)
theorem CtOk.htB : ∀ {c : List (Int × Int)} {last : Int}, CtOk c last → HtB c 100000
  | [], _, _ => fun p hp => by simp at hp
  | q :: c, _, h => fun p hp => by
    rcases List.mem_cons.1 hp with rfl | hp
    · exact h.1.2.1
    · exact CtOk.htB h.2 p hp
theorem HtB.wear {X : List (Int × Int)} {m : Int} (h : HtB X m) {s : Strp} (hs : 0 ≤ s.wear ∧ s.wear ≤ 1000) : HtB (X.map (wearP s)) (m + 1000) := fun p hp => by
  obtain ⟨q, hq, rfl⟩ := List.mem_map.1 hp
  have := h q hq
  unfold wearP
  cases inR q.1 s.lo s.hi
  · show _ ≤ q.2 ∧ q.2 ≤ _; omega
  · show _ ≤ q.2 - s.wear ∧ q.2 - s.wear ≤ _; omega
theorem drop_getS {L : List Strp} {k : Nat} (h : k < L.length) : L.drop k = L.getD k s0 :: L.drop (k + 1) := by
  rw [List.getD_eq_getElem?_getD, List.getElem?_eq_getElem h, List.drop_eq_getElem_cons h]; rfl
theorem worn_err (c : List (Int × Int)) (l : List Strp) (hm : c.length ≤ 140737488355328) (hl : l.length ≤ 140737488355328) (h : wrnE c l ≠ 0) : AC Tryz.prog 26 [frS c, stS l] (.tuple [nilV, I (wrnE c l)]) := by
  have hk := checkContour_A c hm
  have h' : fst0 [(contE c).2, unl (decide ((l.length : Int) ≤ 20)) 8] ≠ 0 := h
  refine ac_body Tryz.func26 rfl (by kernel_rfl) fun w0 ok => ?_; show AWp _ (ctx0 w0 ok _) _ (ARet _ _ _) (entry _)
  (repeat' (first | (with_reducible first | intro hg | refine mv (by constructor) ?_) | ((with_reducible first | refine zR ?_ ?_ | refine zW mixed ?_ ?_); exact kr) | ((with_reducible apply zK); exact rfl; exact tf) | ((with_reducible apply zCD); exact rfl) | ((with_reducible apply zCN); exact rfl) | ((with_reducible apply zC); exact rfl) | ((with_reducible refine zX ?_ ?_); exact rfl) | ((with_reducible refine zE (And.intro ?_ ?_)); exact kr) | (with_reducible refine zE ?_) | ((with_reducible apply zP); (first | exact dp | exact oc rfl (hk) | exact oc rfl (unless_A _ _) | exact oc rfl (first2_A _ _))) | ((with_reducible apply zN); exact dn) | ((with_reducible apply zA); exact da) | ((with_reducible apply zS); exact ds) | ((with_reducible apply zY); exact rfl; exact rfl; exact tf) | ((with_reducible apply zG); exact rfl; exact rfl; exact tf) | ((with_reducible apply zU); exact rfl; exact rfl) | ((with_reducible apply zD); exact rfl; exact rfl) | ((with_reducible apply zB); exact rfl; exact rfl)))
  ((with_reducible first | apply q_retR | apply q_retN); exact rl)
  rfl
abbrev wrnR (x : List (Int × Int) × Int) : DV := .tuple (bif x.2 == 0 then [frS x.1, I 0] else [nilV, I x.2])
theorem wrnR_ne {x : List (Int × Int) × Int} {e : Int} (h : x = ([], e)) (he : e ≠ 0) : wrnR x = .tuple [nilV, I e] := by
  subst h; unfold wrnR; rw [show (e == 0) = false from beq_eq_false_iff_ne.2 he]; rfl
theorem wearP_in {s : Strp} {p : Int × Int} (h : inR p.1 s.lo s.hi = true) : wearP s p = (p.1, p.2 - s.wear) := by unfold wearP; rw [h]; rfl
theorem wearP_out {s : Strp} {p : Int × Int} (h : inR p.1 s.lo s.hi = false) : wearP s p = p := by unfold wearP; rw [h]; rfl
theorem worn_A (c : List (Int × Int)) (l : List Strp) (h : wrnE c l = 0) : AC Tryz.prog 26 [frS c, stS l] (wrnR (wornL l c)) := by
  obtain ⟨h1, h2⟩ := fst0_cons h
  obtain ⟨h2, _⟩ := fst0_cons h2
  have hl := of_decide_eq_true (unl_ok (by decide) h2)
  obtain ⟨c2, c10, hc⟩ := contE_ok h1
  have hk := checkContour_A c (by omega)
  have h' : fst0 [(contE c).2, unl (decide ((l.length : Int) ≤ 20)) 8] = 0 := h
  have hcl := clonePt_A c (by omega) (fun e => by subst e; simp at c2)
  have hbc := hc.htB
  clear h1 h2
  refine ac_body Tryz.func26 rfl (by kernel_rfl) fun w0 ok => ?_; show AWp _ (ctx0 w0 ok _) _ (ARet _ _ _) (entry _)
  (repeat' (first | (with_reducible first | intro hg | refine mv (by constructor) ?_) | ((with_reducible first | refine zR ?_ ?_ | refine zW mixed ?_ ?_); exact kr) | ((with_reducible apply zK); exact rfl; exact tf) | ((with_reducible apply zCD); exact rfl) | ((with_reducible apply zCN); exact rfl) | ((with_reducible apply zC); exact rfl) | ((with_reducible refine zX ?_ ?_); exact rfl) | ((with_reducible refine zE (And.intro ?_ ?_)); exact kr) | (with_reducible refine zE ?_) | ((with_reducible apply zP); (first | exact dp | exact oc rfl (hk) | exact oc rfl (unless_A _ _) | exact oc rfl (first2_A _ _))) | ((with_reducible apply zN); (first | exact dn | exact o_callO rfl hcl (.inl rfl))) | ((with_reducible apply zA); exact da) | ((with_reducible apply zS); exact ds) | ((with_reducible apply zY); exact rfl; exact rfl; exact tf) | ((with_reducible apply zG); exact rfl; exact rfl; exact tf) | ((with_reducible apply zU); exact rfl; exact rfl) | ((with_reducible apply zD); exact rfl; exact rfl) | ((with_reducible apply zB); exact rfl; exact rfl)))
  refine awp_loopL2 (fun (k : Nat) (_ : List (Int × Int)) => [(8, .lsl 30 0 c.length 2), (31, .d (stS l)), (32, .d (I l.length)), (33, .d (I k))]) (fun _ X => [(30, ⟨54, frK X⟩)]) (fun k X => k ≤ l.length ∧ X.length = c.length ∧ wornL l c = wornL (l.drop k) X ∧ HtB X (100000 + 1000 * k)) (fun k _ => l.length - k) 0 c ⟨Nat.zero_le _, rfl, rfl, hbc⟩ (And.intro rfl (And.intro rfl (And.intro rfl (And.intro rfl trivial)))) (And.intro rfl trivial) fun k X ⟨hk, hX, hd, hB⟩ => ?_
  by_cases hlt : k < l.length
  rotate_left
  · obtain rfl : k = l.length := by omega
    rw [List.drop_of_length_le (Nat.le_refl _)] at hd
    have hXl := frK_len X
    rw [hd]
    (repeat' (first | (with_reducible first | intro hg | refine mv (by constructor) ?_) | ((with_reducible first | refine zR ?_ ?_ | refine zW mixed ?_ ?_); exact kr) | ((with_reducible apply zK); exact rfl; exact tf) | ((with_reducible apply zCD); exact rfl) | ((with_reducible apply zCN); exact rfl) | ((with_reducible apply zC); exact rfl) | ((with_reducible refine zX ?_ ?_); exact rfl) | ((with_reducible refine zE (And.intro ?_ ?_)); exact kr) | (with_reducible refine zE ?_) | ((with_reducible apply zP); exact dp) | ((with_reducible apply zN); exact dn) | ((with_reducible apply zA); exact da) | ((with_reducible apply zS); exact ds) | ((with_reducible apply zY); exact rfl; exact rfl; exact tf) | ((with_reducible apply zG); exact rfl; exact rfl; exact tf) | ((with_reducible apply zU); exact rfl; exact rfl) | ((with_reducible apply zD); exact rfl; exact rfl) | ((with_reducible apply zB); exact rfl; exact rfl)))
    ((with_reducible first | apply q_retR | apply q_retN); exact rl)
    show DV.tuple [frS X, I 0] = DV.tuple [.slice c.length (((frK X).drop 0).take (c.length * 2)), I 0]
    rw [List.drop_zero, List.take_of_length_le (by omega), ← hX]
  rw [drop_getS hlt] at hd
  have hse := stripErr_A (l.getD k s0)
  by_cases he : stpE (l.getD k s0) = 0
  rotate_left
  · rw [wornL_ne rfl he] at hd
    rw [wrnR_ne hd he]
    (repeat' (first | (with_reducible first | intro hg | refine mv (by constructor) ?_) | ((with_reducible first | refine zR ?_ ?_ | refine zW mixed ?_ ?_); exact kr) | ((with_reducible apply zK); exact rfl; exact tf) | ((with_reducible apply zCD); exact rfl) | ((with_reducible apply zCN); exact rfl) | ((with_reducible apply zC); exact rfl) | ((with_reducible refine zX ?_ ?_); exact rfl) | ((with_reducible refine zE (And.intro ?_ ?_)); exact kr) | (with_reducible refine zE ?_) | ((with_reducible apply zP); (first | exact o_indexF s0 strC_len (by decide) rfl rfl (by omega) rfl | exact dp | exact oc rfl (hse))) | ((with_reducible apply zN); exact dn) | ((with_reducible apply zA); exact da) | ((with_reducible apply zS); exact ds) | ((with_reducible apply zY); exact rfl; exact rfl; exact tf) | ((with_reducible apply zG); exact rfl; exact rfl; exact tf) | ((with_reducible apply zU); exact rfl; exact rfl) | ((with_reducible apply zD); exact rfl; exact rfl) | ((with_reducible apply zB); exact rfl; exact rfl)))
    ((with_reducible first | apply q_retR | apply q_retN); exact rl)
    rfl
  rw [wornL_zero he] at hd
  obtain ⟨_, _, _, hw1, hw2⟩ := stpE_ok he
  rw [he] at hse
  (repeat' (first | (with_reducible first | intro hg | refine mv (by constructor) ?_) | ((with_reducible first | refine zR ?_ ?_ | refine zW mixed ?_ ?_); exact kr) | ((with_reducible apply zK); exact rfl; exact tf) | ((with_reducible apply zCD); exact rfl) | ((with_reducible apply zCN); exact rfl) | ((with_reducible apply zC); exact rfl) | ((with_reducible refine zX ?_ ?_); exact rfl) | ((with_reducible refine zE (And.intro ?_ ?_)); exact kr) | (with_reducible refine zE ?_) | ((with_reducible apply zP); (first | exact o_indexF s0 strC_len (by decide) rfl rfl (by omega) rfl | exact dp | exact oc rfl (hse))) | ((with_reducible apply zN); exact dn) | ((with_reducible apply zA); exact da) | ((with_reducible apply zS); exact ds) | ((with_reducible apply zY); exact rfl; exact rfl; exact tf) | ((with_reducible apply zG); exact rfl; exact rfl; exact tf) | ((with_reducible apply zU); exact rfl; exact rfl) | ((with_reducible apply zD); exact rfl; exact rfl) | ((with_reducible apply zB); exact rfl; exact rfl)))
  refine awp_loopL2 (fun (j : Nat) (_ : List (Int × Int)) => [(8, .lsl 30 0 c.length 2), (10, .ptr 10 0), (31, .d (stS l)), (32, .d (I l.length)), (33, .d (I k)), (43, .d (I c.length)), (44, .d (I j))]) (fun _ Y => [(10, ⟨75, strC (l.getD k s0)⟩), (30, ⟨54, frK Y⟩)]) (fun j Y => j ≤ c.length ∧ Y = mapTo (wearP (l.getD k s0)) X j) (fun j _ => c.length - j) 0 X ⟨Nat.zero_le _, rfl⟩ (And.intro rfl (And.intro rfl (And.intro rfl (And.intro rfl (And.intro rfl (And.intro rfl (And.intro rfl trivial))))))) (And.intro rfl (And.intro rfl trivial)) fun j Y ⟨hj, hY⟩ => ?_
  have hYl : Y.length = c.length := by rw [hY, mapTo_len _ X (j := j) (by omega), hX]
  by_cases hjt : j < c.length
  rotate_left
  · rw [mapTo_all _ (by omega)] at hY
    subst hY
    (repeat' (first | (with_reducible first | intro hg | refine mv (by constructor) ?_) | ((with_reducible first | refine zR ?_ ?_ | refine zW mixed ?_ ?_); exact kr) | ((with_reducible apply zK); exact rfl; exact tf) | ((with_reducible apply zCD); exact rfl) | ((with_reducible apply zCN); exact rfl) | ((with_reducible apply zC); exact rfl) | ((with_reducible refine zX ?_ ?_); exact rfl) | ((with_reducible refine zE (And.intro ?_ ?_)); exact kr) | (with_reducible refine zE ?_) | ((with_reducible apply zP); exact dp) | ((with_reducible apply zN); exact dn) | ((with_reducible apply zA); exact da) | ((with_reducible apply zS); exact ds) | ((with_reducible apply zY); exact rfl; exact rfl; exact tf) | ((with_reducible apply zG); exact rfl; exact rfl; exact tf) | ((with_reducible apply zU); exact rfl; exact rfl) | ((with_reducible apply zD); exact rfl; exact rfl) | ((with_reducible apply zB); exact rfl; exact rfl)))
    exact ⟨k + 1, _, ⟨hlt, by rw [List.length_map, hX], hd, by have := hB.wear ⟨hw1, hw2⟩; have e : (100000 : Int) + 1000 * k + 1000 = 100000 + 1000 * ((k + 1 : Nat) : Int) := by omega
                                                               rwa [e] at this⟩, by omega, (And.intro rfl (And.intro rfl (And.intro rfl (And.intro rfl trivial)))), (And.intro rfl trivial)⟩
  have hg := mapTo_getD (wearP (l.getD k s0)) (X := X) (j := j) (by omega)
  rw [← hY] at hg
  have hbj := hB.get (k := j) (by omega)
  rw [← hg] at hbj
  have hwt := within_A (Y.getD j f0).1 (l.getD k s0).lo (l.getD k s0).hi
  cases hq : inR (Y.getD j f0).1 (l.getD k s0).lo (l.getD k s0).hi
  · rw [hq] at hwt
    have hs := mapTo_same (wearP (l.getD k s0)) (X := X) (j := j) (by omega) (by rw [← hg]; exact wearP_out hq)
    (repeat' (first | (with_reducible first | intro hg | refine mv (by constructor) ?_) | ((with_reducible first | refine zR ?_ ?_ | refine zW mixed ?_ ?_); exact kr) | ((with_reducible apply zK); exact rfl; exact tf) | ((with_reducible apply zCD); exact rfl) | ((with_reducible apply zCN); exact rfl) | ((with_reducible apply zC); exact rfl) | ((with_reducible refine zX ?_ ?_); exact rfl) | ((with_reducible refine zE (And.intro ?_ ?_)); exact kr) | (with_reducible refine zE ?_) | ((with_reducible apply zP); (first | exact o_indexL (o := j * 2) rfl rfl (by omega) (by omega) (by omega) | exact o_nilCk rfl | exact o_loadF f0 j 0 frC_len rfl rfl rfl (by omega) (by decide) rfl | exact dp | exact oc rfl (hwt))) | ((with_reducible apply zN); exact dn) | ((with_reducible apply zA); exact da) | ((with_reducible apply zS); exact ds) | ((with_reducible apply zY); exact rfl; exact rfl; exact tf) | ((with_reducible apply zG); exact rfl; exact rfl; exact tf) | ((with_reducible apply zU); exact rfl; exact rfl) | ((with_reducible apply zD); exact rfl; exact rfl) | ((with_reducible apply zB); exact rfl; exact rfl)))
    exact ⟨j + 1, Y, ⟨hjt, by rw [hY]; exact hs⟩, by omega, (And.intro rfl (And.intro rfl (And.intro rfl (And.intro rfl (And.intro rfl (And.intro rfl (And.intro rfl trivial))))))), (And.intro rfl (And.intro rfl trivial))⟩
  · rw [hq] at hwt
    have hs := mapTo_set (wearP (l.getD k s0)) (X := X) (j := j) (by omega) (v := ((Y.getD j f0).1, (Y.getD j f0).2 - (l.getD k s0).wear)) (by rw [← hg]; exact (wearP_in hq).symm)
    rw [← hY] at hs
    (repeat' (first | (with_reducible first | intro hg | refine mv (by constructor) ?_) | ((with_reducible first | refine zR ?_ ?_ | refine zW mixed ?_ ?_); exact kr) | ((with_reducible apply zK); exact rfl; exact tf) | ((with_reducible apply zCD); exact rfl) | ((with_reducible apply zCN); exact rfl) | ((with_reducible apply zC); exact rfl) | ((with_reducible refine zX ?_ ?_); exact rfl) | ((with_reducible refine zE (And.intro ?_ ?_)); exact kr) | (with_reducible refine zE ?_) | ((with_reducible apply zP); (first | exact o_indexL (o := j * 2) rfl rfl (by omega) (by omega) (by omega) | exact o_nilCk rfl | exact o_loadF f0 j 0 frC_len rfl rfl rfl (by omega) (by decide) rfl | exact o_loadF f0 j 1 frC_len rfl rfl rfl (by omega) (by decide) rfl | exact dp | exact oc rfl (hwt))) | ((with_reducible apply zN); exact dn) | ((with_reducible apply zA); exact da) | ((with_reducible apply zS); (first | exact o_storeF f0 j 1 ((Y.getD j f0).1, (Y.getD j f0).2 - (l.getD k s0).wear) frC_len rfl rfl rfl rfl rfl rfl (by omega) (by decide) rfl | exact ds)) | ((with_reducible apply zY); exact rfl; exact rfl; exact tf) | ((with_reducible apply zG); exact rfl; exact rfl; exact tf) | ((with_reducible apply zU); exact rfl; exact rfl) | ((with_reducible apply zD); exact rfl; exact rfl) | ((with_reducible apply zB); exact rfl; exact rfl)))
    exact ⟨j + 1, _, ⟨hjt, hs⟩, by omega, (And.intro rfl (And.intro rfl (And.intro rfl (And.intro rfl (And.intro rfl (And.intro rfl (And.intro rfl trivial))))))), (And.intro rfl (And.intro rfl trivial))⟩
theorem refWorn_large (c : List (Int × Int)) (l : List Strp) (hl : l.length ≤ 140737488355328) (h : ¬ (l.length : Int) ≤ 20) : AC Tryz.prog 29 [frS c, stS l] (.tuple [nilV, I 8]) := by
  refine ac_body Tryz.func29 rfl (by kernel_rfl) fun w0 ok => ?_; show AWp _ (ctx0 w0 ok _) _ (ARet _ _ _) (entry _)
  (repeat' (first | (with_reducible first | intro hg | refine mv (by constructor) ?_) | ((with_reducible first | refine zR ?_ ?_ | refine zW mixed ?_ ?_); exact kr) | ((with_reducible apply zK); exact rfl; exact tf) | ((with_reducible apply zCD); exact rfl) | ((with_reducible apply zCN); exact rfl) | ((with_reducible apply zC); exact rfl) | ((with_reducible refine zX ?_ ?_); exact rfl) | ((with_reducible refine zE (And.intro ?_ ?_)); exact kr) | (with_reducible refine zE ?_) | ((with_reducible apply zP); exact dp) | ((with_reducible apply zN); exact dn) | ((with_reducible apply zA); exact da) | ((with_reducible apply zS); exact ds) | ((with_reducible apply zY); exact rfl; exact rfl; exact tf) | ((with_reducible apply zG); exact rfl; exact rfl; exact tf) | ((with_reducible apply zU); exact rfl; exact rfl) | ((with_reducible apply zD); exact rfl; exact rfl) | ((with_reducible apply zB); exact rfl; exact rfl)))
  ((with_reducible first | apply q_retR | apply q_retN); exact rl)
  rfl
theorem stpE_lo {s : Strp} (h : inR s.lo 0 10000 = false) : stpE s = 2 := by unfold stpE; rw [h]; rfl
theorem stpE_hi {s : Strp} (h : inR s.lo 0 10000 = true) (h2 : inR s.hi 0 10000 = false) : stpE s = 2 := by unfold stpE; rw [h, h2]; rfl
theorem refWorn_A (c : List (Int × Int)) (l : List Strp) (h : wrnE c l = 0) : AC Tryz.prog 29 [frS c, stS l] (wrnR (wornL l c)) := by
  obtain ⟨h1, h2⟩ := fst0_cons h
  obtain ⟨h2, _⟩ := fst0_cons h2
  have hl := of_decide_eq_true (unl_ok (by decide) h2)
  obtain ⟨c2, c10, hc⟩ := contE_ok h1
  have hcl := copyContour_O c (by omega) (fun e => by subst e; simp at c2)
  have hbc := hc.htB
  clear h1 h2 h
  refine ac_body Tryz.func29 rfl (by kernel_rfl) fun w0 ok => ?_; show AWp _ (ctx0 w0 ok _) _ (ARet _ _ _) (entry _)
  (repeat' (first | (with_reducible first | intro hg | refine mv (by constructor) ?_) | ((with_reducible first | refine zR ?_ ?_ | refine zW mixed ?_ ?_); exact kr) | ((with_reducible apply zK); exact rfl; exact tf) | ((with_reducible apply zCD); exact rfl) | ((with_reducible apply zCN); exact rfl) | ((with_reducible apply zC); exact rfl) | ((with_reducible refine zX ?_ ?_); exact rfl) | ((with_reducible refine zE (And.intro ?_ ?_)); exact kr) | (with_reducible refine zE ?_) | ((with_reducible apply zP); exact dp) | ((with_reducible apply zN); (first | exact dn | exact o_callO rfl hcl (.inl rfl))) | ((with_reducible apply zA); exact da) | ((with_reducible apply zS); exact ds) | ((with_reducible apply zY); exact rfl; exact rfl; exact tf) | ((with_reducible apply zG); exact rfl; exact rfl; exact tf) | ((with_reducible apply zU); exact rfl; exact rfl) | ((with_reducible apply zD); exact rfl; exact rfl) | ((with_reducible apply zB); exact rfl; exact rfl)))
  refine awp_loopL2 (fun (k : Nat) (_ : List (Int × Int)) => [(1, .d (stS l)), (6, .lsl 14 0 c.length 2), (7, .d (I k))]) (fun _ X => [(14, ⟨54, frK X⟩)]) (fun k X => k ≤ l.length ∧ X.length = c.length ∧ wornL l c = wornL (l.drop k) X ∧ HtB X (100000 + 1000 * k)) (fun k _ => l.length - k) 0 c ⟨Nat.zero_le _, rfl, rfl, hbc⟩ (And.intro rfl (And.intro rfl (And.intro rfl trivial))) (And.intro rfl trivial) fun k X ⟨hk, hX, hd, hB⟩ => ?_
  by_cases hlt : k < l.length
  rotate_left
  · obtain rfl : k = l.length := by omega
    rw [List.drop_of_length_le (Nat.le_refl _)] at hd
    have hXl := frK_len X
    rw [hd]
    (repeat' (first | (with_reducible first | intro hg | refine mv (by constructor) ?_) | ((with_reducible first | refine zR ?_ ?_ | refine zW mixed ?_ ?_); exact kr) | ((with_reducible apply zK); exact rfl; exact tf) | ((with_reducible apply zCD); exact rfl) | ((with_reducible apply zCN); exact rfl) | ((with_reducible apply zC); exact rfl) | ((with_reducible refine zX ?_ ?_); exact rfl) | ((with_reducible refine zE (And.intro ?_ ?_)); exact kr) | (with_reducible refine zE ?_) | ((with_reducible apply zP); exact dp) | ((with_reducible apply zN); exact dn) | ((with_reducible apply zA); exact da) | ((with_reducible apply zS); exact ds) | ((with_reducible apply zY); exact rfl; exact rfl; exact tf) | ((with_reducible apply zG); exact rfl; exact rfl; exact tf) | ((with_reducible apply zU); exact rfl; exact rfl) | ((with_reducible apply zD); exact rfl; exact rfl) | ((with_reducible apply zB); exact rfl; exact rfl)))
    ((with_reducible first | apply q_retR | apply q_retN); exact rl)
    show DV.tuple [frS X, I 0] = DV.tuple [.slice c.length (((frK X).drop 0).take (c.length * 2)), I 0]
    rw [List.drop_zero, List.take_of_length_le (by omega), ← hX]
  rw [drop_getS hlt] at hd
  have hlo := bwithin_A (l.getD k s0).lo 0 10000
  have hhi := bwithin_A (l.getD k s0).hi 0 10000
  have hwe := bwithin_A (l.getD k s0).wear 0 1000
  cases q1 : inR (l.getD k s0).lo 0 10000
  · rw [q1] at hlo
    have he := stpE_lo q1
    rw [wornL_ne he (by decide)] at hd
    rw [wrnR_ne hd (by decide)]
    (repeat' (first | (with_reducible first | intro hg | refine mv (by constructor) ?_) | ((with_reducible first | refine zR ?_ ?_ | refine zW mixed ?_ ?_); exact kr) | ((with_reducible apply zK); exact rfl; exact tf) | ((with_reducible apply zCD); exact rfl) | ((with_reducible apply zCN); exact rfl) | ((with_reducible apply zC); exact rfl) | ((with_reducible refine zX ?_ ?_); exact rfl) | ((with_reducible refine zE (And.intro ?_ ?_)); exact kr) | (with_reducible refine zE ?_) | ((with_reducible apply zP); (first | exact o_indexF s0 strC_len (by decide) rfl rfl (by omega) rfl | exact dp | exact oc rfl (hlo))) | ((with_reducible apply zN); exact dn) | ((with_reducible apply zA); exact da) | ((with_reducible apply zS); exact ds) | ((with_reducible apply zY); exact rfl; exact rfl; exact tf) | ((with_reducible apply zG); exact rfl; exact rfl; exact tf) | ((with_reducible apply zU); exact rfl; exact rfl) | ((with_reducible apply zD); exact rfl; exact rfl) | ((with_reducible apply zB); exact rfl; exact rfl)))
    ((with_reducible first | apply q_retR | apply q_retN); exact rl)
    rfl
  rw [q1] at hlo
  cases q2 : inR (l.getD k s0).hi 0 10000
  · rw [q2] at hhi
    have he := stpE_hi q1 q2
    rw [wornL_ne he (by decide)] at hd
    rw [wrnR_ne hd (by decide)]
    (repeat' (first | (with_reducible first | intro hg | refine mv (by constructor) ?_) | ((with_reducible first | refine zR ?_ ?_ | refine zW mixed ?_ ?_); exact kr) | ((with_reducible apply zK); exact rfl; exact tf) | ((with_reducible apply zCD); exact rfl) | ((with_reducible apply zCN); exact rfl) | ((with_reducible apply zC); exact rfl) | ((with_reducible refine zX ?_ ?_); exact rfl) | ((with_reducible refine zE (And.intro ?_ ?_)); exact kr) | (with_reducible refine zE ?_) | ((with_reducible apply zP); (first | exact o_indexF s0 strC_len (by decide) rfl rfl (by omega) rfl | exact dp | exact oc rfl (hlo) | exact oc rfl (hhi))) | ((with_reducible apply zN); exact dn) | ((with_reducible apply zA); exact da) | ((with_reducible apply zS); exact ds) | ((with_reducible apply zY); exact rfl; exact rfl; exact tf) | ((with_reducible apply zG); exact rfl; exact rfl; exact tf) | ((with_reducible apply zU); exact rfl; exact rfl) | ((with_reducible apply zD); exact rfl; exact rfl) | ((with_reducible apply zB); exact rfl; exact rfl)))
    ((with_reducible first | apply q_retR | apply q_retN); exact rl)
    rfl
  rw [q2] at hhi
  have he0 : stpE (l.getD k s0) = fst0 [unl (decide ((l.getD k s0).lo ≤ (l.getD k s0).hi)) 9, unl (inR (l.getD k s0).wear 0 1000) 2] := by unfold stpE; rw [q1, q2]; rfl
  by_cases q3 : (l.getD k s0).lo ≤ (l.getD k s0).hi
  rotate_left
  · have he : stpE (l.getD k s0) = 9 := by rw [he0, fst0_stop (by decide) (decide_eq_false q3)]
    rw [wornL_ne he (by decide)] at hd
    rw [wrnR_ne hd (by decide)]
    (repeat' (first | (with_reducible first | intro hg | refine mv (by constructor) ?_) | ((with_reducible first | refine zR ?_ ?_ | refine zW mixed ?_ ?_); exact kr) | ((with_reducible apply zK); exact rfl; exact tf) | ((with_reducible apply zCD); exact rfl) | ((with_reducible apply zCN); exact rfl) | ((with_reducible apply zC); exact rfl) | ((with_reducible refine zX ?_ ?_); exact rfl) | ((with_reducible refine zE (And.intro ?_ ?_)); exact kr) | (with_reducible refine zE ?_) | ((with_reducible apply zP); (first | exact o_indexF s0 strC_len (by decide) rfl rfl (by omega) rfl | exact dp | exact oc rfl (hlo) | exact oc rfl (hhi))) | ((with_reducible apply zN); exact dn) | ((with_reducible apply zA); exact da) | ((with_reducible apply zS); exact ds) | ((with_reducible apply zY); exact rfl; exact rfl; exact tf) | ((with_reducible apply zG); exact rfl; exact rfl; exact tf) | ((with_reducible apply zU); exact rfl; exact rfl) | ((with_reducible apply zD); exact rfl; exact rfl) | ((with_reducible apply zB); exact rfl; exact rfl)))
    ((with_reducible first | apply q_retR | apply q_retN); exact rl)
    rfl
  cases q4 : inR (l.getD k s0).wear 0 1000
  · rw [q4] at hwe
    have he : stpE (l.getD k s0) = 2 := by rw [he0, fst0_skip (decide_eq_true q3), fst0_stop (by decide) q4]
    rw [wornL_ne he (by decide)] at hd
    rw [wrnR_ne hd (by decide)]
    (repeat' (first | (with_reducible first | intro hg | refine mv (by constructor) ?_) | ((with_reducible first | refine zR ?_ ?_ | refine zW mixed ?_ ?_); exact kr) | ((with_reducible apply zK); exact rfl; exact tf) | ((with_reducible apply zCD); exact rfl) | ((with_reducible apply zCN); exact rfl) | ((with_reducible apply zC); exact rfl) | ((with_reducible refine zX ?_ ?_); exact rfl) | ((with_reducible refine zE (And.intro ?_ ?_)); exact kr) | (with_reducible refine zE ?_) | ((with_reducible apply zP); (first | exact o_indexF s0 strC_len (by decide) rfl rfl (by omega) rfl | exact dp | exact oc rfl (hlo) | exact oc rfl (hhi) | exact oc rfl (hwe))) | ((with_reducible apply zN); exact dn) | ((with_reducible apply zA); exact da) | ((with_reducible apply zS); exact ds) | ((with_reducible apply zY); exact rfl; exact rfl; exact tf) | ((with_reducible apply zG); exact rfl; exact rfl; exact tf) | ((with_reducible apply zU); exact rfl; exact rfl) | ((with_reducible apply zD); exact rfl; exact rfl) | ((with_reducible apply zB); exact rfl; exact rfl)))
    ((with_reducible first | apply q_retR | apply q_retN); exact rl)
    rfl
  rw [q4] at hwe
  have he : stpE (l.getD k s0) = 0 := by rw [he0, fst0_skip (decide_eq_true q3), fst0_skip q4]; rfl
  rw [wornL_zero he] at hd
  obtain ⟨hw1, hw2⟩ := inR_iff.1 q4
  (repeat' (first | (with_reducible first | intro hg | refine mv (by constructor) ?_) | ((with_reducible first | refine zR ?_ ?_ | refine zW mixed ?_ ?_); exact kr) | ((with_reducible apply zK); exact rfl; exact tf) | ((with_reducible apply zCD); exact rfl) | ((with_reducible apply zCN); exact rfl) | ((with_reducible apply zC); exact rfl) | ((with_reducible refine zX ?_ ?_); exact rfl) | ((with_reducible refine zE (And.intro ?_ ?_)); exact kr) | (with_reducible refine zE ?_) | ((with_reducible apply zP); (first | exact o_indexF s0 strC_len (by decide) rfl rfl (by omega) rfl | exact dp | exact oc rfl (hlo) | exact oc rfl (hhi) | exact oc rfl (hwe))) | ((with_reducible apply zN); exact dn) | ((with_reducible apply zA); exact da) | ((with_reducible apply zS); exact ds) | ((with_reducible apply zY); exact rfl; exact rfl; exact tf) | ((with_reducible apply zG); exact rfl; exact rfl; exact tf) | ((with_reducible apply zU); exact rfl; exact rfl) | ((with_reducible apply zD); exact rfl; exact rfl) | ((with_reducible apply zB); exact rfl; exact rfl)))
  refine awp_loopL2 (fun (j : Nat) (_ : List (Int × Int)) => [(1, .d (stS l)), (6, .lsl 14 0 c.length 2), (7, .d (I k)), (8, .ptr 8 0), (9, .d (I j))]) (fun _ Y => [(8, ⟨75, strC (l.getD k s0)⟩), (14, ⟨54, frK Y⟩)]) (fun j Y => j ≤ c.length ∧ Y = mapTo (wearP (l.getD k s0)) X j) (fun j _ => c.length - j) 0 X ⟨Nat.zero_le _, rfl⟩ (And.intro rfl (And.intro rfl (And.intro rfl (And.intro rfl (And.intro rfl trivial))))) (And.intro rfl (And.intro rfl trivial)) fun j Y ⟨hj, hY⟩ => ?_
  have hYl : Y.length = c.length := by rw [hY, mapTo_len _ X (j := j) (by omega), hX]
  by_cases hjt : j < c.length
  rotate_left
  · rw [mapTo_all _ (by omega)] at hY
    subst hY
    (repeat' (first | (with_reducible first | intro hg | refine mv (by constructor) ?_) | ((with_reducible first | refine zR ?_ ?_ | refine zW mixed ?_ ?_); exact kr) | ((with_reducible apply zK); exact rfl; exact tf) | ((with_reducible apply zCD); exact rfl) | ((with_reducible apply zCN); exact rfl) | ((with_reducible apply zC); exact rfl) | ((with_reducible refine zX ?_ ?_); exact rfl) | ((with_reducible refine zE (And.intro ?_ ?_)); exact kr) | (with_reducible refine zE ?_) | ((with_reducible apply zP); exact dp) | ((with_reducible apply zN); exact dn) | ((with_reducible apply zA); exact da) | ((with_reducible apply zS); exact ds) | ((with_reducible apply zY); exact rfl; exact rfl; exact tf) | ((with_reducible apply zG); exact rfl; exact rfl; exact tf) | ((with_reducible apply zU); exact rfl; exact rfl) | ((with_reducible apply zD); exact rfl; exact rfl) | ((with_reducible apply zB); exact rfl; exact rfl)))
    exact ⟨k + 1, _, ⟨hlt, by rw [List.length_map, hX], hd, by have := hB.wear ⟨hw1, hw2⟩; have e : (100000 : Int) + 1000 * k + 1000 = 100000 + 1000 * ((k + 1 : Nat) : Int) := by omega
                                                               rwa [e] at this⟩, by omega, (And.intro rfl (And.intro rfl (And.intro rfl trivial))), (And.intro rfl trivial)⟩
  have hg := mapTo_getD (wearP (l.getD k s0)) (X := X) (j := j) (by omega)
  rw [← hY] at hg
  have hbj := hB.get (k := j) (by omega)
  rw [← hg] at hbj
  have hwt := bwithin_A (Y.getD j f0).1 (l.getD k s0).lo (l.getD k s0).hi
  cases hq : inR (Y.getD j f0).1 (l.getD k s0).lo (l.getD k s0).hi
  · rw [hq] at hwt
    have hs := mapTo_same (wearP (l.getD k s0)) (X := X) (j := j) (by omega) (by rw [← hg]; exact wearP_out hq)
    (repeat' (first | (with_reducible first | intro hg | refine mv (by constructor) ?_) | ((with_reducible first | refine zR ?_ ?_ | refine zW mixed ?_ ?_); exact kr) | ((with_reducible apply zK); exact rfl; exact tf) | ((with_reducible apply zCD); exact rfl) | ((with_reducible apply zCN); exact rfl) | ((with_reducible apply zC); exact rfl) | ((with_reducible refine zX ?_ ?_); exact rfl) | ((with_reducible refine zE (And.intro ?_ ?_)); exact kr) | (with_reducible refine zE ?_) | ((with_reducible apply zP); (first | exact o_indexL (o := j * 2) rfl rfl (by omega) (by omega) (by omega) | exact o_loadF f0 j 0 frC_len rfl rfl rfl (by omega) (by decide) rfl | exact dp | exact oc rfl (hwt))) | ((with_reducible apply zN); exact dn) | ((with_reducible apply zA); exact da) | ((with_reducible apply zS); exact ds) | ((with_reducible apply zY); exact rfl; exact rfl; exact tf) | ((with_reducible apply zG); exact rfl; exact rfl; exact tf) | ((with_reducible apply zU); exact rfl; exact rfl) | ((with_reducible apply zD); exact rfl; exact rfl) | ((with_reducible apply zB); exact rfl; exact rfl)))
    exact ⟨j + 1, Y, ⟨hjt, by rw [hY]; exact hs⟩, by omega, (And.intro rfl (And.intro rfl (And.intro rfl (And.intro rfl (And.intro rfl trivial))))), (And.intro rfl (And.intro rfl trivial))⟩
  · rw [hq] at hwt
    have hs := mapTo_set (wearP (l.getD k s0)) (X := X) (j := j) (by omega) (v := ((Y.getD j f0).1, (Y.getD j f0).2 - (l.getD k s0).wear)) (by rw [← hg]; exact (wearP_in hq).symm)
    rw [← hY] at hs
    (repeat' (first | (with_reducible first | intro hg | refine mv (by constructor) ?_) | ((with_reducible first | refine zR ?_ ?_ | refine zW mixed ?_ ?_); exact kr) | ((with_reducible apply zK); exact rfl; exact tf) | ((with_reducible apply zCD); exact rfl) | ((with_reducible apply zCN); exact rfl) | ((with_reducible apply zC); exact rfl) | ((with_reducible refine zX ?_ ?_); exact rfl) | ((with_reducible refine zE (And.intro ?_ ?_)); exact kr) | (with_reducible refine zE ?_) | ((with_reducible apply zP); (first | exact o_indexL (o := j * 2) rfl rfl (by omega) (by omega) (by omega) | exact o_loadF f0 j 0 frC_len rfl rfl rfl (by omega) (by decide) rfl | exact o_loadF f0 j 1 frC_len rfl rfl rfl (by omega) (by decide) rfl | exact dp | exact oc rfl (hwt))) | ((with_reducible apply zN); exact dn) | ((with_reducible apply zA); exact da) | ((with_reducible apply zS); (first | exact o_storeF f0 j 1 ((Y.getD j f0).1, (Y.getD j f0).2 - (l.getD k s0).wear) frC_len rfl rfl rfl rfl rfl rfl (by omega) (by decide) rfl | exact ds)) | ((with_reducible apply zY); exact rfl; exact rfl; exact tf) | ((with_reducible apply zG); exact rfl; exact rfl; exact tf) | ((with_reducible apply zU); exact rfl; exact rfl) | ((with_reducible apply zD); exact rfl; exact rfl) | ((with_reducible apply zB); exact rfl; exact rfl)))
    exact ⟨j + 1, _, ⟨hjt, hs⟩, by omega, (And.intro rfl (And.intro rfl (And.intro rfl (And.intro rfl (And.intro rfl trivial))))), (And.intro rfl (And.intro rfl trivial))⟩

end Go.Proofs.YtagpmpbmfjaiiaaGreatDoor
