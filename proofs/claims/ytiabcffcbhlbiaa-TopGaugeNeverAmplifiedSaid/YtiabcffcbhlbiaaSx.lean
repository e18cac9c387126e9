/- Runs of exact loops. -/
import Derived.Test.YtiabcffcbhlbiaaSf
import Derived.Test.YtiabcffcbhlbiaaSg
set_option linter.unusedVariables false
set_option linter.unusedSimpArgs false
namespace Go.Proofs.Ytiabcffcbhlbiaa
open Go.RowKit
set_option maxRecDepth 20000
set_option maxHeartbeats 8000000

/-- The lower ends. -/
abbrev losL (c : List Rg) : List Int := c.map fun r => r.1
theorem losL_nth (c : List Rg) (i : Nat) : nth (losL c) i = (c.getD i rg0).1 := by
  unfold nth losL
  rw [List.getD_eq_getElem?_getD, List.getElem?_map, List.getD_eq_getElem?_getD]
  cases c[i]? <;> rfl
theorem losL_len (c : List Rg) : (losL c).length = c.length := List.length_map ..
theorem losL_bnd {c : List Rg} {den : Int} (h : LoopOk c den) (i : Nat) : (nth (losL c) i).natAbs ≤ 10 := by
  rw [losL_nth]
  by_cases hi : i < c.length
  · have := h.b _ (rg_mem hi); omega
  · rw [rg_out hi]; decide
theorem losL_lst (c : List Rg) : lst (fun i => (c.getD i rg0).1) c.length = losL c := by
  refine List.ext_getElem (by rw [lst_length, losL_len]) fun i h1 h2 => ?_
  rw [losL_len] at h2
  simp [lst, losL, List.getElem?_eq_getElem h2]
theorem los_row : ∀ c : List Rg, (∀ r ∈ c, r.1 ≤ r.2) → rowE c (losL c) = 0
  | [], _ => rfl
  | r :: c, h => by
    have h1 := h r List.mem_cons_self
    show (bif inR r.1 r.1 r.2 then rowE c (losL c) else 22) = 0
    rw [inR_true.2 ⟨by omega, h1⟩, cond_true]
    exact los_row c fun r hr => h r (List.mem_cons_of_mem _ hr)
theorem los_cf {c : List Rg} (h : ∀ r ∈ c, r.1 ≤ r.2) : ∀ n, cfE c (List.replicate n (losL c)) = 0
  | 0 => rfl
  | n + 1 => by
    have e : cfE1 c (losL c) = 0 := by
      unfold cfE1
      rw [decide_eq_true (by rw [losL_len]), cond_true]
      exact los_row c h
    rw [List.replicate_succ]
    unfold cfE
    rw [e]
    exact los_cf h n
theorem rep_getD {α : Type} (d x : α) {n t : Nat} (h : t < n) : (List.replicate n x).getD t d = x := by
  rw [List.getD_eq_getElem?_getD, List.getElem?_replicate, if_pos h]; rfl
theorem any_of {x : List Int} {m : Nat} (hm : m ≤ 100) (h : ∀ t, t < x.length → (nth x t).natAbs ≤ m) : (!x.any fun n => !inR n (-100) 100) = true := by
  rw [Bool.not_eq_true', ← Bool.not_eq_true, List.any_eq_true]
  rintro ⟨n, hn, h2⟩
  obtain ⟨t, ht, rfl⟩ := List.getElem_of_mem hn
  have h3 := h t ht
  unfold nth at h3
  rw [List.getD_eq_getElem?_getD, List.getElem?_eq_getElem ht] at h3
  have h3 : x[t].natAbs ≤ m := h3
  rw [inR_true.2 ⟨by omega, by omega⟩] at h2
  cases h2
theorem sxE_ok {c : List Rg} {x : List Int} (h : sxE c x = 0) : x.length = c.length ∧ (!x.any fun n => !inR n (-100) 100) = true := by
  obtain ⟨k1, k2⟩ := fst0_cons h
  rw [fst0_one] at k2
  have := of_decide_eq_true (unl_ok (by decide) k1)
  exact ⟨by omega, unl_ok (by decide) k2⟩
/-- A run of an exact loop is valid. -/
theorem rnE_los {c : List Rg} {den : Int} {x es : List Int} (h : loE c den = 0) (hx : sxE c x = 0) (h8 : es.length ≤ 8) (hb : ∀ t, t < es.length → (nth es t).natAbs ≤ 100) : rnE c den x (List.replicate es.length (losL c)) es = 0 := by
  have hL := loE_ok h
  obtain ⟨k1, k2⟩ := sxE_ok hx
  have e0 : srH c den x (List.replicate es.length (losL c)) = 0 := by
    unfold srH
    rw [h, fst0_zero, decide_eq_true (by omega), k2]
    rw [decide_eq_true (show (((List.replicate es.length (losL c)).length : Nat) : Int) ≤ 8 by rw [List.length_replicate]; omega)]
    rfl
  have e1 : srE c den x (List.replicate es.length (losL c)) = 0 := by
    unfold srE
    rw [e0]
    exact los_cf (fun r hr => (hL.b r hr).2.2) _
  unfold rnE
  rw [e1, fst0_zero, decide_eq_true (by rw [List.length_replicate]), any_of (by decide) hb]
  rfl
theorem rnV_cases (den : Int) (cs : List (List Int)) (dz x : List Int) : (rnV den cs dz x = (outF den cs dz x cs.length, 0) ∧ ∀ t, t < cs.length → smQ (vlt den cs dz x t) = true) ∨ rnV den cs dz x = ([], 8) := by
  by_cases h : ∀ t, t < cs.length → smQ (vlt den cs dz x t) = true
  · exact .inl ⟨rnV_yes h, h⟩
  · refine .inr ?_
    have h2 : ∃ t, t < cs.length ∧ ¬ smQ (vlt den cs dz x t) = true := by
      refine Classical.byContradiction fun hn => h fun t ht => Classical.byContradiction fun h3 => hn ⟨t, ht, h3⟩
    obtain ⟨t, ht, h3⟩ := h2
    exact rnV_no ht (by simpa using h3)
theorem outF_get {den : Int} {cs : List (List Int)} {dz x : List Int} {n t : Nat} (h : t < n) : (outF den cs dz x n).getD t rg0 = qF (vlt den cs dz x t) := by
  unfold outF
  rw [List.getD_eq_getElem?_getD, List.getElem?_map, List.getElem?_range h]; rfl
/-- Small ratios. -/
theorem smQ_bnd {r : Rat} (h : smQ r = true) : r.num.natAbs ≤ 1000000000 ∧ (r.den : Int) ≤ 1000000000 := by
  unfold smQ at h
  rw [Bool.and_eq_true] at h
  have h1 := inR_true.1 h.1
  have h2 := inR_true.1 h.2
  exact ⟨by omega, h2.2⟩
theorem smQ_S {r : Rat} (h : smQ r = true) : RatS 3 r := by
  obtain ⟨h1, h2⟩ := smQ_bnd h
  have := den_pos r
  exact ⟨wlen_int ⟨by omega, by omega⟩, wlen_int ⟨by omega, by omega⟩⟩
theorem bisLow_q (r : Rat) (h : smQ r = true) : AC Try.prog 18 [F2 (qF r)] (B true) := by
  obtain ⟨h1, h2⟩ := smQ_bnd h
  have h3 := den_pos r
  have w := bgcd_A r.num (r.den : Int) ⟨by omega, by omega⟩ ⟨by omega, by omega⟩
  have e : Int.gcd r.num (r.den : Int) = 1 := r.reduced
  rw [e] at w
  refine ac_body Try.func18 rfl (by kernel_rfl) fun w0 ok => ?_; show AWp _ (ctx0 w0 ok _) _ (ARet _ _ _) (entry _)
  (repeat' (first | (with_reducible first | intro hg | refine mv (by constructor) ?_) | ((with_reducible first | refine zR ?_ ?_ | refine zW mixed ?_ ?_); exact kr) | ((with_reducible apply zK); exact rfl; exact tf) | ((with_reducible apply zCD); exact rfl) | ((with_reducible apply zCN); exact rfl) | ((with_reducible apply zC); exact rfl) | ((with_reducible refine zX ?_ ?_); exact rfl) | ((with_reducible refine zE (And.intro ?_ ?_)); exact kr) | (with_reducible refine zE ?_) | ((with_reducible apply zP); (first | exact dp | exact oc rfl (w))) | ((with_reducible apply zN); exact dn) | ((with_reducible apply zA); exact da) | ((with_reducible apply zS); exact ds) | ((with_reducible apply zY); exact rfl; exact rfl; exact tf) | ((with_reducible apply zG); exact rfl; exact rfl; exact tf) | ((with_reducible apply zU); exact rfl; exact rfl) | ((with_reducible apply zD); exact rfl; exact rfl) | ((with_reducible apply zB); exact rfl; exact rfl)))
  ((with_reducible first | apply q_retR | apply q_retN); exact rl)
  rfl
theorem bisSmall_q (r : Rat) (h : smQ r = true) : AC Try.prog 19 [F2 (qF r)] (B true) := by
  have w := isSmall_A r.num (r.den : Int)
  have e : (inR r.num (-1000000000) 1000000000 && inR (r.den : Int) 1 1000000000) = true := h
  rw [e] at w
  exact w
theorem from_q (r : Rat) (h : smQ r = true) : AC Try.prog 23 [F2 (qF r)] (ratV r) := by
  obtain ⟨h1, h2⟩ := smQ_bnd h
  have h3 := den_pos r
  have w := ratioFrom_A (qF r) ⟨by show -9223372036854775808 ≤ r.num; omega, by show r.num ≤ 9223372036854775807; omega⟩ ⟨by show -9223372036854775808 ≤ (r.den : Int); omega, by show (r.den : Int) ≤ 9223372036854775807; omega⟩ (by show (r.den : Int) ≠ 0; omega)
  rw [Rat.num_divInt_den] at w
  exact w
theorem cmpR_self (r : Rat) : cmpR r r = 0 := by
  unfold cmpR
  rw [Int.sub_self]; rfl
abbrev rpl (c : List Rg) (k : Nat) : List (List Int) := List.replicate k (losL c)
theorem rpl_snoc (c : List Rg) (k : Nat) : llS (rpl c k) ++ [isl (losL c)] = llS (rpl c (k + 1)) := by
  rw [llS_snoc]
  congr 1
  exact (List.replicate_succ' ..).symm
theorem rpl_len (c : List Rg) (k : Nat) : (llS (rpl c k)).length = k * 1 := by rw [llS_len, List.length_replicate, Nat.mul_one]
theorem rpl_sl (c : List Rg) (k : Nat) : DV.slice k ((llS (rpl c k)).take (k * 1)) = llV (rpl c k) := by
  rw [List.take_of_length_le (by rw [rpl_len]; omega)]
  show _ = DV.slice (rpl c k).length _
  rw [List.length_replicate]
theorem TurnsE.trans {c : Fam} {s : AS} {α β : Type} {T : α → AS} {U : β → AS} (ht : TurnsE c s T) (hu : ∀ x, TurnsE c (T x) U) : TurnsE c s U := fun φ a w h => let ⟨x, φ', h'⟩ := ht φ a w h; hu x φ' a w h'
end Go.Proofs.Ytiabcffcbhlbiaa
