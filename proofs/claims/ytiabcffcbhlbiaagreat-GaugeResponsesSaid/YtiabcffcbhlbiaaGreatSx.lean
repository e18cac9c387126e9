/- Runs of exact loops. -/
import Derived.Test.YtiabcffcbhlbiaaGreatSf
import Derived.Test.YtiabcffcbhlbiaaGreatSg
set_option linter.unusedVariables false
set_option linter.unusedSimpArgs false
namespace Go.Proofs.YtiabcffcbhlbiaaGreat
open Go.RowKit
set_option maxRecDepth 20000
set_option maxHeartbeats 8000000

/-- The lower ends. -/
abbrev losL (c : List Rg) : List Int := c.map fun r => r.1
theorem losL_nth (c : List Rg) (i : Nat) : nth (losL c) i = (c.getD i rg0).1 := by
  unfold nth losL
  rw [List.getD_eq_getElem?_getD, List.getElem?_map, List.getD_eq_getElem?_getD]
  cases c[i]? <;> rfl
theorem losL_len (c : List Rg) : (losL c).length = c.length := List.length_map ..
theorem losL_bnd {c : List Rg} {den : Int} (h : LoopOk c den) (i : Nat) : (nth (losL c) i).natAbs ≤ 10 := by
  rw [losL_nth]
  by_cases hi : i < c.length
  · have := h.b _ (rg_mem hi); omega
  · rw [rg_out hi]; decide
theorem losL_lst (c : List Rg) : lst (fun i => (c.getD i rg0).1) c.length = losL c := by
  refine List.ext_getElem (by rw [lst_length, losL_len]) fun i h1 h2 => ?_
  rw [losL_len] at h2
  simp [lst, losL, List.getElem?_eq_getElem h2]
theorem los_row : ∀ c : List Rg, (∀ r ∈ c, r.1 ≤ r.2) → rowE c (losL c) = 0
  | [], _ => rfl
  | r :: c, h => by
    have h1 := h r List.mem_cons_self
    show (bif inR r.1 r.1 r.2 then rowE c (losL c) else 22) = 0
    rw [inR_true.2 ⟨by omega, h1⟩, cond_true]
    exact los_row c fun r hr => h r (List.mem_cons_of_mem _ hr)
theorem los_cf {c : List Rg} (h : ∀ r ∈ c, r.1 ≤ r.2) : ∀ n, cfE c (List.replicate n (losL c)) = 0
  | 0 => rfl
  | n + 1 => by
    have e : cfE1 c (losL c) = 0 := by
      unfold cfE1
      rw [decide_eq_true (by rw [losL_len]), cond_true]
      exact los_row c h
    rw [List.replicate_succ]
    unfold cfE
    rw [e]
    exact los_cf h n
theorem rep_getD {α : Type} (d x : α) {n t : Nat} (h : t < n) : (List.replicate n x).getD t d = x := by
  rw [List.getD_eq_getElem?_getD, List.getElem?_replicate, if_pos h]; rfl
theorem any_of {x : List Int} {m : Nat} (hm : m ≤ 100) (h : ∀ t, t < x.length → (nth x t).natAbs ≤ m) : (!x.any fun n => !inR n (-100) 100) = true := by
  rw [Bool.not_eq_true', ← Bool.not_eq_true, List.any_eq_true]
  rintro ⟨n, hn, h2⟩
  obtain ⟨t, ht, rfl⟩ := List.getElem_of_mem hn
  have h3 := h t ht
  unfold nth at h3
  rw [List.getD_eq_getElem?_getD, List.getElem?_eq_getElem ht] at h3
  have h3 : x[t].natAbs ≤ m := h3
  rw [inR_true.2 ⟨by omega, by omega⟩] at h2
  cases h2
theorem sxE_ok {c : List Rg} {x : List Int} (h : sxE c x = 0) : x.length = c.length ∧ (!x.any fun n => !inR n (-100) 100) = true := by
  obtain ⟨k1, k2⟩ := fst0_cons h
  rw [fst0_one] at k2
  have := of_decide_eq_true (unl_ok (by decide) k1)
  exact ⟨by omega, unl_ok (by decide) k2⟩
/-- A run of an exact loop is valid. -/
theorem rnE_los {c : List Rg} {den : Int} {x es : List Int} (h : loE c den = 0) (hx : sxE c x = 0) (h8 : es.length ≤ 8) (hb : ∀ t, t < es.length → (nth es t).natAbs ≤ 100) : rnE c den x (List.replicate es.length (losL c)) es = 0 := by
  have hL := loE_ok h
  obtain ⟨k1, k2⟩ := sxE_ok hx
  have e0 : srH c den x (List.replicate es.length (losL c)) = 0 := by
    unfold srH
    rw [h, fst0_zero, decide_eq_true (by omega), k2]
    rw [decide_eq_true (show (((List.replicate es.length (losL c)).length : Nat) : Int) ≤ 8 by rw [List.length_replicate]; omega)]
    rfl
  have e1 : srE c den x (List.replicate es.length (losL c)) = 0 := by
    unfold srE
    rw [e0]
    exact los_cf (fun r hr => (hL.b r hr).2.2) _
  unfold rnE
  rw [e1, fst0_zero, decide_eq_true (by rw [List.length_replicate]), any_of (by decide) hb]
  rfl
abbrev rpl (c : List Rg) (k : Nat) : List (List Int) := List.replicate k (losL c)
theorem rpl_snoc (c : List Rg) (k : Nat) : llS (rpl c k) ++ [isl (losL c)] = llS (rpl c (k + 1)) := by
  rw [llS_snoc]
  congr 1
  exact (List.replicate_succ' ..).symm
theorem rpl_len (c : List Rg) (k : Nat) : (llS (rpl c k)).length = k * 1 := by rw [llS_len, List.length_replicate, Nat.mul_one]
theorem rpl_sl (c : List Rg) (k : Nat) : DV.slice k ((llS (rpl c k)).take (k * 1)) = llV (rpl c k) := by
  rw [List.take_of_length_le (by rw [rpl_len]; omega)]
  show _ = DV.slice (rpl c k).length _
  rw [List.length_replicate]
theorem TurnsE.trans {c : Fam} {s : AS} {α β : Type} {T : α → AS} {U : β → AS} (ht : TurnsE c s T) (hu : ∀ x, TurnsE c (T x) U) : TurnsE c s U := fun φ a w h => let ⟨x, φ', h'⟩ := ht φ a w h; hu x φ' a w h'
end Go.Proofs.YtiabcffcbhlbiaaGreat
