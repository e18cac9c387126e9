/- Numerals, by the reference: Number. Printed by wip/gennum.py. -/
import Derived.Test.YtfcfmpdpjmbcnaaGreatDoorNw
set_option linter.unusedVariables false
set_option linter.unusedSimpArgs false
namespace Go.Proofs.YtfcfmpdpjmbcnaaGreatDoor
open Go.RowKit
set_option maxRecDepth 20000
set_option maxHeartbeats 8000000

theorem head_getD {l : List UInt8} (h : 0 < l.length) : l.head? = some (l.getD 0 0) := by
  cases l with
  | nil => exact absurd h (by decide)
  | cons x l => rfl
theorem get_getD {l : List UInt8} {i : Nat} (h : i < l.length) : l[i]? = some (l.getD i 0) := by
  rw [List.getD_eq_getElem?_getD, List.getElem?_eq_getElem h]; rfl
/-- Behind i digits. -/
theorem valD_take {l : List UInt8} {i : Nat} (hi : i < l.length) : valD 0 (l.take (i + 1)) = 10 * valD 0 (l.take i) + ((l.getD i 0).toNat - 48) := by
  rw [List.take_add_one, valD_append, get_getD hi]; rfl
theorem all_take {l : List UInt8} {i : Nat} (h : (l.take i).all digB = true) (hi : i < l.length) (hd : digB (l.getD i 0) = true) : (l.take (i + 1)).all digB = true := by
  rw [List.take_add_one, List.all_append, h, get_getD hi]
  show (true && (digB (l.getD i 0) && true)) = true
  rw [hd]; rfl
theorem all_no {l : List UInt8} {i : Nat} (hi : i < l.length) (hd : ¬ digB (l.getD i 0) = true) : ¬ l.all digB = true := fun h => by
  refine hd (List.all_eq_true.1 h _ ?_)
  rw [List.getD_eq_getElem?_getD, List.getElem?_eq_getElem hi]
  exact List.getElem_mem hi
theorem number_A (l : List UInt8) (D : Nat) (hD : D ≤ 18) (hl : l.length ≤ 1000000) : AC Tryz.prog 50 [T8 l, I D] (.tuple [I ((numN l D).getD 0), B (numN l D).isSome]) := by
  have hp : 10 ^ D ≤ 10 ^ 18 := Nat.pow_le_pow_right (by decide) hD
  have hp2 : (10 : Nat) ^ 18 = 1000000000000000000 := rfl
  rcases Nat.eq_zero_or_pos l.length with h0 | h0
  · obtain rfl := List.length_eq_zero_iff.1 h0
    refine ac_body Tryz.func50 rfl (by kernel_rfl) fun w0 ok => ?_; show AWp _ (ctx0 w0 ok _) _ (ARet _ _ _) (entry _)
    (repeat' (first | (with_reducible first | intro hg | refine mv (by constructor) ?_) | ((with_reducible first | refine zR ?_ ?_ | refine zW mixed ?_ ?_); exact kr) | ((with_reducible apply zK); exact rfl; exact tf) | ((with_reducible apply zCD); exact rfl) | ((with_reducible apply zCN); exact rfl) | ((with_reducible apply zC); exact rfl) | ((with_reducible refine zX ?_ ?_); exact rfl) | ((with_reducible refine zE (And.intro ?_ ?_)); exact kr) | (with_reducible refine zE ?_) | ((with_reducible apply zP); (first | exact o_lenT8 rfl | exact dp)) | ((with_reducible apply zN); exact dn) | ((with_reducible apply zA); exact da) | ((with_reducible apply zS); exact ds) | ((with_reducible apply zY); exact rfl; exact rfl; exact tf) | ((with_reducible apply zG); exact rfl; exact rfl; exact tf) | ((with_reducible apply zU); exact rfl; exact rfl) | ((with_reducible apply zD); exact rfl; exact rfl) | ((with_reducible apply zB); exact rfl; exact rfl)))
    ((with_reducible first | apply q_retR | apply q_retN); exact rl)
    rfl
  have hhd := head_getD h0
  by_cases hx : l.getD 0 0 = 45
  · have hx2 : ((l.getD 0 0).toNat : Int) = 45 := by rw [hx]; rfl
    have hh : l.head? = some 45 := by rw [hhd, hx]
    have hif : numN l D = if l.length = 1 ∨ D < l.length - 1 ∨ l[1]? = some 48 then none else if (l.drop 1).all digB then some (-(valD 0 (l.drop 1) : Int)) else none := by unfold numN; rw [if_pos hh]
    rw [hif]; clear hif
    by_cases hA : l.length = 1
    · rw [if_pos (.inl hA)]
      refine ac_body Tryz.func50 rfl (by kernel_rfl) fun w0 ok => ?_; show AWp _ (ctx0 w0 ok _) _ (ARet _ _ _) (entry _)
      (repeat' (first | (with_reducible first | intro hg | refine mv (by constructor) ?_) | ((with_reducible first | refine zR ?_ ?_ | refine zW mixed ?_ ?_); exact kr) | ((with_reducible apply zK); exact rfl; exact tf) | ((with_reducible apply zCD); exact rfl) | ((with_reducible apply zCN); exact rfl) | ((with_reducible apply zC); exact rfl) | ((with_reducible refine zX ?_ ?_); exact rfl) | ((with_reducible refine zE (And.intro ?_ ?_)); exact kr) | (with_reducible refine zE ?_) | ((with_reducible apply zP); (first | exact o_lenT8 rfl | exact o_indexT8 (i := 0) rfl rfl (by omega) | exact o_indexT8 (i := 1) rfl rfl (by omega) | exact dp)) | ((with_reducible apply zN); exact dn) | ((with_reducible apply zA); exact da) | ((with_reducible apply zS); exact ds) | ((with_reducible apply zY); exact rfl; exact rfl; exact tf) | ((with_reducible apply zG); exact rfl; exact rfl; exact tf) | ((with_reducible apply zU); exact rfl; exact rfl) | ((with_reducible apply zD); exact rfl; exact rfl) | ((with_reducible apply zB); exact rfl; exact rfl)))
      ((with_reducible first | apply q_retR | apply q_retN); exact rl)
      rfl
    by_cases hB : D < l.length - 1
    · rw [if_pos (.inr (.inl hB))]
      refine ac_body Tryz.func50 rfl (by kernel_rfl) fun w0 ok => ?_; show AWp _ (ctx0 w0 ok _) _ (ARet _ _ _) (entry _)
      (repeat' (first | (with_reducible first | intro hg | refine mv (by constructor) ?_) | ((with_reducible first | refine zR ?_ ?_ | refine zW mixed ?_ ?_); exact kr) | ((with_reducible apply zK); exact rfl; exact tf) | ((with_reducible apply zCD); exact rfl) | ((with_reducible apply zCN); exact rfl) | ((with_reducible apply zC); exact rfl) | ((with_reducible refine zX ?_ ?_); exact rfl) | ((with_reducible refine zE (And.intro ?_ ?_)); exact kr) | (with_reducible refine zE ?_) | ((with_reducible apply zP); (first | exact o_lenT8 rfl | exact o_indexT8 (i := 0) rfl rfl (by omega) | exact o_indexT8 (i := 1) rfl rfl (by omega) | exact dp)) | ((with_reducible apply zN); exact dn) | ((with_reducible apply zA); exact da) | ((with_reducible apply zS); exact ds) | ((with_reducible apply zY); exact rfl; exact rfl; exact tf) | ((with_reducible apply zG); exact rfl; exact rfl; exact tf) | ((with_reducible apply zU); exact rfl; exact rfl) | ((with_reducible apply zD); exact rfl; exact rfl) | ((with_reducible apply zB); exact rfl; exact rfl)))
      ((with_reducible first | apply q_retR | apply q_retN); exact rl)
      rfl
    by_cases hC : l[1]? = some 48
    · rw [if_pos (.inr (.inr hC))]
      have hC2 := show ((l.getD 1 0).toNat : Int) = 48 by rw [List.getD_eq_getElem?_getD, hC]; rfl
      refine ac_body Tryz.func50 rfl (by kernel_rfl) fun w0 ok => ?_; show AWp _ (ctx0 w0 ok _) _ (ARet _ _ _) (entry _)
      (repeat' (first | (with_reducible first | intro hg | refine mv (by constructor) ?_) | ((with_reducible first | refine zR ?_ ?_ | refine zW mixed ?_ ?_); exact kr) | ((with_reducible apply zK); exact rfl; exact tf) | ((with_reducible apply zCD); exact rfl) | ((with_reducible apply zCN); exact rfl) | ((with_reducible apply zC); exact rfl) | ((with_reducible refine zX ?_ ?_); exact rfl) | ((with_reducible refine zE (And.intro ?_ ?_)); exact kr) | (with_reducible refine zE ?_) | ((with_reducible apply zP); (first | exact o_lenT8 rfl | exact o_indexT8 (i := 0) rfl rfl (by omega) | exact o_indexT8 (i := 1) rfl rfl (by omega) | exact dp)) | ((with_reducible apply zN); exact dn) | ((with_reducible apply zA); exact da) | ((with_reducible apply zS); exact ds) | ((with_reducible apply zY); exact rfl; exact rfl; exact tf) | ((with_reducible apply zG); exact rfl; exact rfl; exact tf) | ((with_reducible apply zU); exact rfl; exact rfl) | ((with_reducible apply zD); exact rfl; exact rfl) | ((with_reducible apply zB); exact rfl; exact rfl)))
      ((with_reducible first | apply q_retR | apply q_retN); exact rl)
      rfl
    rw [if_neg (fun h => h.elim (fun e => by omega) fun h => h.elim hB hC)]
    have hnC : ¬ ((l.getD 1 0).toNat : Int) = 48 := fun e => hC (by rw [get_getD (by omega)]; exact congrArg some (u8_ext (by show (l.getD 1 0).toNat = 48; omega)))
    obtain ⟨m, hm⟩ : ∃ m, m = (l.drop 1) := ⟨_, rfl⟩
    have hml : m.length = l.length - 1 := by rw [hm]; exact List.length_drop
    have hgm : ∀ j, m.getD j 0 = l.getD (1 + j) 0 := fun j => by rw [hm, List.getD_eq_getElem?_getD, List.getD_eq_getElem?_getD, List.getElem?_drop]
    rw [← hm]
    clear hm hhd hC
    refine ac_body Tryz.func50 rfl (by kernel_rfl) fun w0 ok => ?_; show AWp _ (ctx0 w0 ok _) _ (ARet _ _ _) (entry _)
    (repeat' (first | (with_reducible first | intro hg | refine mv (by constructor) ?_) | ((with_reducible first | refine zR ?_ ?_ | refine zW mixed ?_ ?_); exact kr) | ((with_reducible apply zK); exact rfl; exact tf) | ((with_reducible apply zCD); exact rfl) | ((with_reducible apply zCN); exact rfl) | ((with_reducible apply zC); exact rfl) | ((with_reducible refine zX ?_ ?_); exact rfl) | ((with_reducible refine zE (And.intro ?_ ?_)); exact kr) | (with_reducible refine zE ?_) | ((with_reducible apply zP); (first | exact o_lenT8 rfl | exact o_indexT8 (i := 0) rfl rfl (by omega) | exact o_indexT8 (i := 1) rfl rfl (by omega) | exact dp)) | ((with_reducible apply zN); exact dn) | ((with_reducible apply zA); exact da) | ((with_reducible apply zS); exact ds) | ((with_reducible apply zY); exact rfl; exact rfl; exact tf) | ((with_reducible apply zG); exact rfl; exact rfl; exact tf) | ((with_reducible apply zU); exact rfl; exact rfl) | ((with_reducible apply zD); exact rfl; exact rfl) | ((with_reducible apply zB); exact rfl; exact rfl)))
    refine awp_loopL (α := Nat) (fun j => [(0, .d (T8 l)), (6, .d (I 1)), (7, .d (I (valD 0 (m.take j) : Nat))), (8, .d (I ((1 + j : Nat))))]) (fun _ => []) (fun j => j ≤ m.length ∧ (m.take j).all digB = true) (fun j => m.length - j) 0 ⟨Nat.zero_le _, rfl⟩ (And.intro rfl (And.intro rfl (And.intro rfl (And.intro rfl trivial)))) trivial fun j ⟨hj, hall⟩ => ?_
    by_cases hlt : j < m.length
    · have hgj := hgm j
      by_cases hd : digB (l.getD (1 + j) 0) = true
      · have hall2 := all_take hall hlt (by rw [hgj]; exact hd)
        have hvt := valD_take (l := m) hlt
        have hlt2 := valD_lt (m.take (j + 1)) 0 (List.all_eq_true.1 hall2)
        have hle : 10 ^ (m.take (j + 1)).length ≤ 10 ^ D := Nat.pow_le_pow_right (by decide) (by rw [List.length_take]; omega)
        have hd2 := digB_iff.1 hd
        rw [hgj] at hvt
        clear hgm hgj hd
        have hdg : ∃ u, l.getD (1 + j) 0 = u := ⟨_, rfl⟩
        have hsub : IntKind.u8.wrap (((l.getD (1 + j) 0).toNat : Int) - 48) = (((l.getD (1 + j) 0).toNat - 48 : Nat) : Int) := by rw [wrU (by omega) (by omega)]; omega
        (repeat' (first | (with_reducible first | intro hg | refine mv (by constructor) ?_) | ((with_reducible first | refine zR ?_ ?_ | refine zW mixed ?_ ?_); exact kr) | ((with_reducible apply zK); exact rfl; exact tf) | ((with_reducible apply zCD); exact rfl) | ((with_reducible apply zCN); exact rfl) | ((with_reducible apply zC); exact rfl) | ((with_reducible refine zX ?_ ?_); exact rfl) | ((with_reducible refine zE (And.intro ?_ ?_)); exact kr) | (with_reducible refine zE ?_) | ((with_reducible apply zP); (first | exact o_lenT8 rfl | exact o_indexT8 (i := 1 + j) rfl rfl (by omega) | exact o_sub rfl rfl hsub | exact dp)) | ((with_reducible apply zN); exact dn) | ((with_reducible apply zA); exact da) | ((with_reducible apply zS); exact ds) | ((with_reducible apply zY); exact rfl; exact rfl; exact tf) | ((with_reducible apply zG); exact rfl; exact rfl; exact tf) | ((with_reducible apply zU); exact rfl; exact rfl) | ((with_reducible apply zD); exact rfl; exact rfl) | ((with_reducible apply zB); exact rfl; exact rfl)))
        exact ⟨j + 1, ⟨hlt, hall2⟩, by omega, (And.intro rfl (And.intro rfl (And.intro (congrArg (fun n : Int => AV.d (I n)) (by rw [hvt]; omega)) (And.intro (rfl) trivial)))), trivial⟩
      · have hno := all_no hlt (by rw [hgj]; exact hd)
        rw [if_neg hno]
        have hd2 : (l.getD (1 + j) 0).toNat < 48 ∨ 57 < (l.getD (1 + j) 0).toNat := by
          rw [digB_iff] at hd; omega
        rcases hd2 with hd2 | hd2
        all_goals
          (repeat' (first | (with_reducible first | intro hg | refine mv (by constructor) ?_) | ((with_reducible first | refine zR ?_ ?_ | refine zW mixed ?_ ?_); exact kr) | ((with_reducible apply zK); exact rfl; exact tf) | ((with_reducible apply zCD); exact rfl) | ((with_reducible apply zCN); exact rfl) | ((with_reducible apply zC); exact rfl) | ((with_reducible refine zX ?_ ?_); exact rfl) | ((with_reducible refine zE (And.intro ?_ ?_)); exact kr) | (with_reducible refine zE ?_) | ((with_reducible apply zP); (first | exact o_lenT8 rfl | exact o_indexT8 (i := 1 + j) rfl rfl (by omega) | exact dp)) | ((with_reducible apply zN); exact dn) | ((with_reducible apply zA); exact da) | ((with_reducible apply zS); exact ds) | ((with_reducible apply zY); exact rfl; exact rfl; exact tf) | ((with_reducible apply zG); exact rfl; exact rfl; exact tf) | ((with_reducible apply zU); exact rfl; exact rfl) | ((with_reducible apply zD); exact rfl; exact rfl) | ((with_reducible apply zB); exact rfl; exact rfl)))
          ((with_reducible first | apply q_retR | apply q_retN); exact rl)
          rfl
    · obtain rfl : j = m.length := by omega
      have hlt2 := valD_lt (m.take m.length) 0 (List.all_eq_true.1 hall)
      have hle : 10 ^ (m.take m.length).length ≤ 10 ^ D := Nat.pow_le_pow_right (by decide) (by rw [List.length_take]; omega)
      rw [List.take_length] at hall hlt2 hle ⊢
      rw [if_pos hall]
      (repeat' (first | (with_reducible first | intro hg | refine mv (by constructor) ?_) | ((with_reducible first | refine zR ?_ ?_ | refine zW mixed ?_ ?_); exact kr) | ((with_reducible apply zK); exact rfl; exact tf) | ((with_reducible apply zCD); exact rfl) | ((with_reducible apply zCN); exact rfl) | ((with_reducible apply zC); exact rfl) | ((with_reducible refine zX ?_ ?_); exact rfl) | ((with_reducible refine zE (And.intro ?_ ?_)); exact kr) | (with_reducible refine zE ?_) | ((with_reducible apply zP); (first | exact o_lenT8 rfl | exact dp)) | ((with_reducible apply zN); exact dn) | ((with_reducible apply zA); exact da) | ((with_reducible apply zS); exact ds) | ((with_reducible apply zY); exact rfl; exact rfl; exact tf) | ((with_reducible apply zG); exact rfl; exact rfl; exact tf) | ((with_reducible apply zU); exact rfl; exact rfl) | ((with_reducible apply zD); exact rfl; exact rfl) | ((with_reducible apply zB); exact rfl; exact rfl)))
      ((with_reducible first | apply q_retR | apply q_retN); exact rl)
      rfl
  · have hx2 : ¬ ((l.getD 0 0).toNat : Int) = 45 := fun e => hx (u8_ext (by show (l.getD 0 0).toNat = 45; omega))
    have hh : ¬ l.head? = some 45 := fun e => by rw [hhd] at e; injection e with e; exact hx e
    have hif : numN l D = if l.length = 0 ∨ D < l.length ∨ (l[0]? = some 48 ∧ 1 < l.length) then none else if l.all digB then some ((valD 0 l : Int)) else none := by unfold numN; rw [if_neg hh]
    rw [hif]; clear hif
    by_cases hB : D < l.length
    · rw [if_pos (.inr (.inl hB))]
      refine ac_body Tryz.func50 rfl (by kernel_rfl) fun w0 ok => ?_; show AWp _ (ctx0 w0 ok _) _ (ARet _ _ _) (entry _)
      (repeat' (first | (with_reducible first | intro hg | refine mv (by constructor) ?_) | ((with_reducible first | refine zR ?_ ?_ | refine zW mixed ?_ ?_); exact kr) | ((with_reducible apply zK); exact rfl; exact tf) | ((with_reducible apply zCD); exact rfl) | ((with_reducible apply zCN); exact rfl) | ((with_reducible apply zC); exact rfl) | ((with_reducible refine zX ?_ ?_); exact rfl) | ((with_reducible refine zE (And.intro ?_ ?_)); exact kr) | (with_reducible refine zE ?_) | ((with_reducible apply zP); (first | exact o_lenT8 rfl | exact o_indexT8 (i := 0) rfl rfl (by omega) | exact dp)) | ((with_reducible apply zN); exact dn) | ((with_reducible apply zA); exact da) | ((with_reducible apply zS); exact ds) | ((with_reducible apply zY); exact rfl; exact rfl; exact tf) | ((with_reducible apply zG); exact rfl; exact rfl; exact tf) | ((with_reducible apply zU); exact rfl; exact rfl) | ((with_reducible apply zD); exact rfl; exact rfl) | ((with_reducible apply zB); exact rfl; exact rfl)))
      ((with_reducible first | apply q_retR | apply q_retN); exact rl)
      rfl
    by_cases hC : (l[0]? = some 48 ∧ 1 < l.length)
    · rw [if_pos (.inr (.inr hC))]
      have hC2 := show ((l.getD 0 0).toNat : Int) = 48 by rw [List.getD_eq_getElem?_getD, hC.1]; rfl
      refine ac_body Tryz.func50 rfl (by kernel_rfl) fun w0 ok => ?_; show AWp _ (ctx0 w0 ok _) _ (ARet _ _ _) (entry _)
      (repeat' (first | (with_reducible first | intro hg | refine mv (by constructor) ?_) | ((with_reducible first | refine zR ?_ ?_ | refine zW mixed ?_ ?_); exact kr) | ((with_reducible apply zK); exact rfl; exact tf) | ((with_reducible apply zCD); exact rfl) | ((with_reducible apply zCN); exact rfl) | ((with_reducible apply zC); exact rfl) | ((with_reducible refine zX ?_ ?_); exact rfl) | ((with_reducible refine zE (And.intro ?_ ?_)); exact kr) | (with_reducible refine zE ?_) | ((with_reducible apply zP); (first | exact o_lenT8 rfl | exact o_indexT8 (i := 0) rfl rfl (by omega) | exact dp)) | ((with_reducible apply zN); exact dn) | ((with_reducible apply zA); exact da) | ((with_reducible apply zS); exact ds) | ((with_reducible apply zY); exact rfl; exact rfl; exact tf) | ((with_reducible apply zG); exact rfl; exact rfl; exact tf) | ((with_reducible apply zU); exact rfl; exact rfl) | ((with_reducible apply zD); exact rfl; exact rfl) | ((with_reducible apply zB); exact rfl; exact rfl)))
      ((with_reducible first | apply q_retR | apply q_retN); exact rl)
      rfl
    rw [if_neg (fun h => h.elim (fun e => by omega) fun h => h.elim hB hC)]
    have hnC : ¬ ((l.getD 0 0).toNat : Int) = 48 ∨ (((l.getD 0 0).toNat : Int) = 48 ∧ l.length = 1) := by
      by_cases h1 : ((l.getD 0 0).toNat : Int) = 48
      · refine .inr ⟨h1, Decidable.byContradiction fun h2 => hC ⟨?_, by omega⟩⟩
        rw [get_getD h0]; exact congrArg some (u8_ext (by show (l.getD 0 0).toNat = 48; omega))
      · exact .inl h1
    have hgm : ∀ j, l.getD j 0 = l.getD j 0 := fun j => rfl
    clear hhd hC
    rcases hnC with hnC | ⟨hnC, hnD⟩
    all_goals
      refine ac_body Tryz.func50 rfl (by kernel_rfl) fun w0 ok => ?_; show AWp _ (ctx0 w0 ok _) _ (ARet _ _ _) (entry _)
      (repeat' (first | (with_reducible first | intro hg | refine mv (by constructor) ?_) | ((with_reducible first | refine zR ?_ ?_ | refine zW mixed ?_ ?_); exact kr) | ((with_reducible apply zK); exact rfl; exact tf) | ((with_reducible apply zCD); exact rfl) | ((with_reducible apply zCN); exact rfl) | ((with_reducible apply zC); exact rfl) | ((with_reducible refine zX ?_ ?_); exact rfl) | ((with_reducible refine zE (And.intro ?_ ?_)); exact kr) | (with_reducible refine zE ?_) | ((with_reducible apply zP); (first | exact o_lenT8 rfl | exact o_indexT8 (i := 0) rfl rfl (by omega) | exact dp)) | ((with_reducible apply zN); exact dn) | ((with_reducible apply zA); exact da) | ((with_reducible apply zS); exact ds) | ((with_reducible apply zY); exact rfl; exact rfl; exact tf) | ((with_reducible apply zG); exact rfl; exact rfl; exact tf) | ((with_reducible apply zU); exact rfl; exact rfl) | ((with_reducible apply zD); exact rfl; exact rfl) | ((with_reducible apply zB); exact rfl; exact rfl)))
      refine awp_loopL (α := Nat) (fun j => [(0, .d (T8 l)), (6, .d (I 0)), (7, .d (I (valD 0 (l.take j) : Nat))), (8, .d (I ((j : Nat))))]) (fun _ => []) (fun j => j ≤ l.length ∧ (l.take j).all digB = true) (fun j => l.length - j) 0 ⟨Nat.zero_le _, rfl⟩ (And.intro rfl (And.intro rfl (And.intro rfl (And.intro rfl trivial)))) trivial fun j ⟨hj, hall⟩ => ?_
      by_cases hlt : j < l.length
      · have hgj := hgm j
        by_cases hd : digB (l.getD (j) 0) = true
        · have hall2 := all_take hall hlt (by rw [hgj]; exact hd)
          have hvt := valD_take (l := l) hlt
          have hlt2 := valD_lt (l.take (j + 1)) 0 (List.all_eq_true.1 hall2)
          have hle : 10 ^ (l.take (j + 1)).length ≤ 10 ^ D := Nat.pow_le_pow_right (by decide) (by rw [List.length_take]; omega)
          have hd2 := digB_iff.1 hd
          rw [hgj] at hvt
          clear hgm hgj hd
          have hdg : ∃ u, l.getD (j) 0 = u := ⟨_, rfl⟩
          have hsub : IntKind.u8.wrap (((l.getD (j) 0).toNat : Int) - 48) = (((l.getD (j) 0).toNat - 48 : Nat) : Int) := by rw [wrU (by omega) (by omega)]; omega
          (repeat' (first | (with_reducible first | intro hg | refine mv (by constructor) ?_) | ((with_reducible first | refine zR ?_ ?_ | refine zW mixed ?_ ?_); exact kr) | ((with_reducible apply zK); exact rfl; exact tf) | ((with_reducible apply zCD); exact rfl) | ((with_reducible apply zCN); exact rfl) | ((with_reducible apply zC); exact rfl) | ((with_reducible refine zX ?_ ?_); exact rfl) | ((with_reducible refine zE (And.intro ?_ ?_)); exact kr) | (with_reducible refine zE ?_) | ((with_reducible apply zP); (first | exact o_lenT8 rfl | exact o_indexT8 (i := j) rfl rfl (by omega) | exact o_sub rfl rfl hsub | exact dp)) | ((with_reducible apply zN); exact dn) | ((with_reducible apply zA); exact da) | ((with_reducible apply zS); exact ds) | ((with_reducible apply zY); exact rfl; exact rfl; exact tf) | ((with_reducible apply zG); exact rfl; exact rfl; exact tf) | ((with_reducible apply zU); exact rfl; exact rfl) | ((with_reducible apply zD); exact rfl; exact rfl) | ((with_reducible apply zB); exact rfl; exact rfl)))
          exact ⟨j + 1, ⟨hlt, hall2⟩, by omega, (And.intro rfl (And.intro rfl (And.intro (congrArg (fun n : Int => AV.d (I n)) (by rw [hvt]; omega)) (And.intro (rfl) trivial)))), trivial⟩
        · have hno := all_no hlt (by rw [hgj]; exact hd)
          rw [if_neg hno]
          have hd2 : (l.getD (j) 0).toNat < 48 ∨ 57 < (l.getD (j) 0).toNat := by
            rw [digB_iff] at hd; omega
          rcases hd2 with hd2 | hd2
          all_goals
            (repeat' (first | (with_reducible first | intro hg | refine mv (by constructor) ?_) | ((with_reducible first | refine zR ?_ ?_ | refine zW mixed ?_ ?_); exact kr) | ((with_reducible apply zK); exact rfl; exact tf) | ((with_reducible apply zCD); exact rfl) | ((with_reducible apply zCN); exact rfl) | ((with_reducible apply zC); exact rfl) | ((with_reducible refine zX ?_ ?_); exact rfl) | ((with_reducible refine zE (And.intro ?_ ?_)); exact kr) | (with_reducible refine zE ?_) | ((with_reducible apply zP); (first | exact o_lenT8 rfl | exact o_indexT8 (i := j) rfl rfl (by omega) | exact dp)) | ((with_reducible apply zN); exact dn) | ((with_reducible apply zA); exact da) | ((with_reducible apply zS); exact ds) | ((with_reducible apply zY); exact rfl; exact rfl; exact tf) | ((with_reducible apply zG); exact rfl; exact rfl; exact tf) | ((with_reducible apply zU); exact rfl; exact rfl) | ((with_reducible apply zD); exact rfl; exact rfl) | ((with_reducible apply zB); exact rfl; exact rfl)))
            ((with_reducible first | apply q_retR | apply q_retN); exact rl)
            rfl
      · obtain rfl : j = l.length := by omega
        have hlt2 := valD_lt (l.take l.length) 0 (List.all_eq_true.1 hall)
        have hle : 10 ^ (l.take l.length).length ≤ 10 ^ D := Nat.pow_le_pow_right (by decide) (by rw [List.length_take]; omega)
        rw [List.take_length] at hall hlt2 hle ⊢
        rw [if_pos hall]
        (repeat' (first | (with_reducible first | intro hg | refine mv (by constructor) ?_) | ((with_reducible first | refine zR ?_ ?_ | refine zW mixed ?_ ?_); exact kr) | ((with_reducible apply zK); exact rfl; exact tf) | ((with_reducible apply zCD); exact rfl) | ((with_reducible apply zCN); exact rfl) | ((with_reducible apply zC); exact rfl) | ((with_reducible refine zX ?_ ?_); exact rfl) | ((with_reducible refine zE (And.intro ?_ ?_)); exact kr) | (with_reducible refine zE ?_) | ((with_reducible apply zP); (first | exact o_lenT8 rfl | exact dp)) | ((with_reducible apply zN); exact dn) | ((with_reducible apply zA); exact da) | ((with_reducible apply zS); exact ds) | ((with_reducible apply zY); exact rfl; exact rfl; exact tf) | ((with_reducible apply zG); exact rfl; exact rfl; exact tf) | ((with_reducible apply zU); exact rfl; exact rfl) | ((with_reducible apply zD); exact rfl; exact rfl) | ((with_reducible apply zB); exact rfl; exact rfl)))
        ((with_reducible first | apply q_retR | apply q_retN); exact rl)
        rfl

end Go.Proofs.YtfcfmpdpjmbcnaaGreatDoor
