/- The string of a loop, by the package and by the reference. -/
import Derived.Test.YtfcfmpdpjmbcnaaGreatDoorYa
import Derived.Test.YtfcfmpdpjmbcnaaGreatDoorSg
set_option linter.unusedVariables false
set_option linter.unusedSimpArgs false
namespace Go.Proofs.YtfcfmpdpjmbcnaaGreatDoor
open Go.RowKit
set_option maxRecDepth 20000
set_option maxHeartbeats 4000000

theorem fmtE_one (r : Int × Int) : fmtE [r] = endS r := Lib.join_one _ _
theorem fmtE_snoc {c : List (Int × Int)} (h : c ≠ []) (r : Int × Int) : fmtE (c ++ [r]) = fmtE c ++ [44] ++ endS r := by
  cases c with
  | nil => exact absurd rfl h
  | cons u c =>
    unfold fmtE
    rw [List.cons_append, List.map_cons, List.map_cons, List.map_append, List.map_cons, List.map_nil, Lib.join_cons, Lib.join_cons]
    unfold Lib.joinTail
    simp
theorem endS_len {r : Int × Int} (h1 : I64 r.1) (h2 : I64 r.2) : (endS r).length ≤ 41 := by
  have a := (itoa_len h1).1
  have b := (itoa_len h2).1
  unfold endS
  simp only [List.length_append, List.length_singleton]
  omega
theorem fmtE_len : ∀ (n : Nat) (c : List (Int × Int)), c.length = n → (∀ r ∈ c, I64 r.1 ∧ I64 r.2) → (fmtE c).length ≤ 42 * c.length
  | 0, c, hl, _ => by
    obtain rfl := List.length_eq_zero_iff.1 hl
    exact Nat.le_refl _
  | n + 1, c, hl, h => by
    obtain ⟨r, v, rfl⟩ : ∃ r v, c = r ++ [v] := ⟨c.dropLast, c.getLast (by rintro rfl; simp at hl), (List.dropLast_concat_getLast _).symm⟩
    obtain ⟨g1, g2⟩ := h v (by simp)
    have hv := endS_len g1 g2
    rw [List.length_append, List.length_singleton] at hl ⊢
    by_cases hr : r = []
    · subst hr
      rw [List.nil_append, fmtE_one]
      omega
    · rw [fmtE_snoc hr, List.length_append, List.length_append]
      have := fmtE_len n r (by omega) fun x hx => h x (by simp [hx])
      simp only [List.length_singleton]
      omega
theorem take_rg {c : List Rg} {k : Nat} (h : k < c.length) : c.take (k + 1) = c.take k ++ [c.getD k rg0] := by
  rw [List.take_add_one, List.getD_eq_getElem?_getD, List.getElem?_eq_getElem h]; rfl
theorem fmtG_len {c : List Rg} {den : Int} (hc : c.length ≤ 1000) (hci : ∀ r ∈ c, I64 r.1 ∧ I64 r.2) (hd : I64 den) : (fmtG c den).length ≤ 50000 := by
  have h1 := fmtE_len _ c rfl hci
  have h2 := (itoa_len hd).1
  unfold fmtG
  simp only [List.length_append, List.length_singleton]
  omega
theorem leM_ownG {s : AS} {nm : Nat} {t : TypeId} {cs : List DV} {n : Nat} (h : ∀ k, n = k + 1 → s.mem nm = some ⟨t, cs⟩) : leM s (ownM nm t cs n) := by
  cases n with
  | zero => trivial
  | succ k => exact ⟨h k rfl, trivial⟩
theorem formatLoop_A (c : List Rg) (den : Int) (hc : c.length ≤ 1000) (hci : ∀ r ∈ c, I64 r.1 ∧ I64 r.2) (hd : I64 den) : AC Tryz.prog 7 [loV c den] (T8 (fmtG c den)) := by
  have hlen := fmtE_len _ c rfl hci
  have hj : AC Tryz.prog 41 [tsl (c.map endS), T8 [44]] (T8 (fmtE c)) := join_A (c.map endS) [44] (by rw [List.length_map]; omega) (show (fmtE c).length ≤ _ by omega)
  have hid := itoa_A den hd
  have hdl := (itoa_len hd).1
  refine ac_body Tryz.func7 rfl (by kernel_rfl) fun w0 ok => ?_; show AWp _ (ctx0 w0 ok _) _ (ARet _ _ _) (entry _)
  (repeat' (first | (with_reducible first | intro hg | refine mv (by constructor) ?_) | ((with_reducible first | refine zR ?_ ?_ | refine zW mixed ?_ ?_); exact kr) | ((with_reducible apply zK); exact rfl; exact tf) | ((with_reducible apply zCD); exact rfl) | ((with_reducible apply zCN); exact rfl) | ((with_reducible apply zC); exact rfl) | ((with_reducible refine zX ?_ ?_); exact rfl) | ((with_reducible refine zE (And.intro ?_ ?_)); exact kr) | (with_reducible refine zE ?_) | ((with_reducible apply zP); exact dp) | ((with_reducible apply zN); exact dn) | ((with_reducible apply zA); exact da) | ((with_reducible apply zS); exact ds) | ((with_reducible apply zY); exact rfl; exact rfl; exact tf) | ((with_reducible apply zG); exact rfl; exact rfl; exact tf) | ((with_reducible apply zU); exact rfl; exact rfl) | ((with_reducible apply zD); exact rfl; exact rfl) | ((with_reducible apply zB); exact rfl; exact rfl)))
  refine awp_loopL (α := Nat) (fun k => [(1, .ptr 1 0), (3, ownZ 23 1 k), (7, .d (rgV c)), (8, .d (I c.length)), (9, .d (I k))]) (fun k => (1, ⟨24, [rgV c, I den]⟩) :: ownM 23 9 (((c.take k).map endS).map T8) k) (fun k => k ≤ c.length) (fun k => c.length - k) 0 (Nat.zero_le _) (And.intro rfl (And.intro rfl (And.intro rfl (And.intro rfl (And.intro rfl trivial))))) (And.intro rfl trivial) fun k hk => ?_
  by_cases hlt : k < c.length
  rotate_left
  · obtain rfl : k = c.length := by omega
    rw [List.take_length]
    refine awp_ownZ 3 23 1 (t := 9) ((c.map endS).map T8) (by simp) rfl (fun k hk => by rw [hk]; rfl) ?_
    have hj : AC Tryz.prog 41 [.slice c.length ((c.map endS).map T8), T8 [44]] (T8 (fmtE c)) := by
      have e : (c.map endS).length = c.length := List.length_map ..
      unfold tsl at hj
      rwa [e] at hj
    have hg : fmtG c den = Lib.itoa den ++ [59] ++ fmtE c := rfl
    rw [hg]
    clear hci hg
    generalize fmtE c = f at *
    generalize Lib.itoa den = d at *
    (repeat' (first | (with_reducible first | intro hg | refine mv (by constructor) ?_) | ((with_reducible first | refine zR ?_ ?_ | refine zW mixed ?_ ?_); exact kr) | ((with_reducible apply zK); exact rfl; exact tf) | ((with_reducible apply zCD); exact rfl) | ((with_reducible apply zCN); exact rfl) | ((with_reducible apply zC); exact rfl) | ((with_reducible refine zX ?_ ?_); exact rfl) | ((with_reducible refine zE (And.intro ?_ ?_)); exact kr) | (with_reducible refine zE ?_) | ((with_reducible apply zP); (first | exact o_addT rfl rfl (by (try simp) <;> omega) (by (try simp) <;> omega) | exact dp | exact oc rfl (hj) | exact oc rfl (hid))) | ((with_reducible apply zN); exact dn) | ((with_reducible apply zA); exact da) | ((with_reducible apply zS); exact ds) | ((with_reducible apply zY); exact rfl; exact rfl; exact tf) | ((with_reducible apply zG); exact rfl; exact rfl; exact tf) | ((with_reducible apply zU); exact rfl; exact rfl) | ((with_reducible apply zD); exact rfl; exact rfl) | ((with_reducible apply zB); exact rfl; exact rfl)))
    ((with_reducible first | apply q_retR | apply q_retN); exact rl)
    rfl
  have hm : c.getD k rg0 ∈ c := by
    rw [List.getD_eq_getElem?_getD, List.getElem?_eq_getElem hlt]
    exact List.getElem_mem hlt
  obtain ⟨i1, i2⟩ := hci _ hm
  have h1 := itoa_A _ i1
  have h2 := itoa_A _ i2
  have l1 := (itoa_len i1).1
  have l2 := (itoa_len i2).1
  have htk := take_rg hlt
  have hcl : some (Blk.mk 9 (((c.take k).map endS).map T8 ++ [T8 (Lib.itoa (c.getD k rg0).1 ++ [32] ++ Lib.itoa (c.getD k rg0).2)])) = some ⟨9, ((c.take (k + 1)).map endS).map T8⟩ := by
    rw [htk, List.map_append, List.map_append]; rfl
  have hxl : (((c.take k).map endS).map T8).length = k * 1 := by simp; omega
  clear hci hm hj hid htk hlen hdl i1 i2
  generalize Lib.itoa (c.getD k rg0).1 = a at *
  generalize Lib.itoa (c.getD k rg0).2 = b at *
  rcases k with _ | k
  · (repeat' (first | (with_reducible first | intro hg | refine mv (by constructor) ?_) | ((with_reducible first | refine zR ?_ ?_ | refine zW mixed ?_ ?_); exact kr) | ((with_reducible apply zK); exact rfl; exact tf) | ((with_reducible apply zCD); exact rfl) | ((with_reducible apply zCN); exact rfl) | ((with_reducible apply zC); exact rfl) | ((with_reducible refine zX ?_ ?_); exact rfl) | ((with_reducible refine zE (And.intro ?_ ?_)); exact kr) | (with_reducible refine zE ?_) | ((with_reducible apply zP); (first | exact o_indexF rg0 frC_len (by decide) rfl rfl (by omega) rfl | exact o_addT rfl rfl (by (try simp) <;> omega) (by (try simp) <;> omega) | exact dp | exact oc rfl (h1) | exact oc rfl (h2))) | ((with_reducible apply zN); exact dn) | ((with_reducible apply zA); exact da) | ((with_reducible apply zS); exact ds) | ((with_reducible apply zY); exact rfl; exact rfl; exact tf) | ((with_reducible apply zG); exact rfl; exact rfl; exact tf) | ((with_reducible apply zU); exact rfl; exact rfl) | ((with_reducible apply zD); exact rfl; exact rfl) | ((with_reducible apply zB); exact rfl; exact rfl)))
    exact ⟨0 + 1, hlt, by omega, (And.intro rfl (And.intro rfl (And.intro rfl (And.intro rfl (And.intro rfl trivial))))), (And.intro rfl (And.intro (hcl) trivial))⟩
  · (repeat' (first | (with_reducible first | intro hg | refine mv (by constructor) ?_) | ((with_reducible first | refine zR ?_ ?_ | refine zW mixed ?_ ?_); exact kr) | ((with_reducible apply zK); exact rfl; exact tf) | ((with_reducible apply zCD); exact rfl) | ((with_reducible apply zCN); exact rfl) | ((with_reducible apply zC); exact rfl) | ((with_reducible refine zX ?_ ?_); exact rfl) | ((with_reducible refine zE (And.intro ?_ ?_)); exact kr) | (with_reducible refine zE ?_) | ((with_reducible apply zP); (first | exact o_indexF rg0 frC_len (by decide) rfl rfl (by omega) rfl | exact o_addT rfl rfl (by (try simp) <;> omega) (by (try simp) <;> omega) | exact dp | exact oc rfl (h1) | exact oc rfl (h2))) | ((with_reducible apply zN); exact dn) | ((with_reducible apply zA); (first | ((apply o_app); (case hx => exact rfl); (case hm => exact rfl); (case hy => exact .own rfl rfl); (case hty => exact rfl); (case hl => solve | exact hxl | rfl); (case hcl => solve | rfl | exact hxl | simp); (case hpos => omega); (case hb => omega); (case hb2 => omega); (case hnew => exact rfl)) | ((apply o_app); (case hx => exact rfl); (case hm => exact rfl); (case hy => exact .sl rfl); (case hty => exact rfl); (case hl => solve | exact hxl | rfl); (case hcl => solve | rfl | exact hxl | simp); (case hpos => omega); (case hb => omega); (case hb2 => omega); (case hnew => exact rfl)) | exact da)) | ((with_reducible apply zS); exact ds) | ((with_reducible apply zY); exact rfl; exact rfl; exact tf) | ((with_reducible apply zG); exact rfl; exact rfl; exact tf) | ((with_reducible apply zU); exact rfl; exact rfl) | ((with_reducible apply zD); exact rfl; exact rfl) | ((with_reducible apply zB); exact rfl; exact rfl)))
    exact ⟨k + 1 + 1, hlt, by omega, (And.intro rfl (And.intro rfl (And.intro rfl (And.intro rfl (And.intro rfl trivial))))), (And.intro rfl (And.intro (hcl) trivial))⟩
theorem refFormatLoop_A (c : List Rg) (den : Int) (hc : c.length ≤ 1000) (hci : ∀ r ∈ c, I64 r.1 ∧ I64 r.2) (hd : I64 den) : AC Tryz.prog 11 [loV c den] (T8 (fmtG c den)) := by
  have hid := decimal_A den hd
  have hdl := (itoa_len hd).1
  have hG : ∀ k, (Lib.itoa den ++ [59] ++ fmtE (c.take k)).length ≤ 50000 := fun k => by
    have := fmtE_len _ (c.take k) rfl fun r hr => hci r (List.mem_of_mem_take hr)
    have h2 : (c.take k).length ≤ c.length := by rw [List.length_take]; omega
    simp only [List.length_append, List.length_singleton]
    omega
  have h0 : Lib.itoa den ++ [59] = Lib.itoa den ++ [59] ++ fmtE (c.take 0) := (List.append_nil _).symm
  have hend : Lib.itoa den ++ [59] ++ fmtE (c.take c.length) = fmtG c den := by rw [List.take_length]; rfl
  have hst : ∀ k, k < c.length → Lib.itoa den ++ [59] ++ fmtE (c.take (k + 1)) = (if k = 0 then Lib.itoa den ++ [59] ++ fmtE (c.take k) else Lib.itoa den ++ [59] ++ fmtE (c.take k) ++ [44]) ++ Lib.itoa (c.getD k rg0).1 ++ [32] ++ Lib.itoa (c.getD k rg0).2 := fun k hk => by
    rw [take_rg hk]
    by_cases e : k = 0
    · subst e
      rw [if_pos rfl, List.take_zero, List.nil_append, fmtE_one]
      unfold endS
      simp [fmtE, Lib.join]
    · rw [if_neg e, fmtE_snoc (fun h => by
        have := congrArg List.length h
        rw [List.length_take, Nat.min_eq_left (by omega)] at this
        exact e this)]
      unfold endS
      simp
  refine ac_body Tryz.func11 rfl (by kernel_rfl) fun w0 ok => ?_; show AWp _ (ctx0 w0 ok _) _ (ARet _ _ _) (entry _)
  (repeat' (first | (with_reducible first | intro hg | refine mv (by constructor) ?_) | ((with_reducible first | refine zR ?_ ?_ | refine zW mixed ?_ ?_); exact kr) | ((with_reducible apply zK); exact rfl; exact tf) | ((with_reducible apply zCD); exact rfl) | ((with_reducible apply zCN); exact rfl) | ((with_reducible apply zC); exact rfl) | ((with_reducible refine zX ?_ ?_); exact rfl) | ((with_reducible refine zE (And.intro ?_ ?_)); exact kr) | (with_reducible refine zE ?_) | ((with_reducible apply zP); (first | exact o_addT rfl rfl (by (try simp) <;> omega) (by (try simp) <;> omega) | exact dp | exact oc rfl (hid))) | ((with_reducible apply zN); exact dn) | ((with_reducible apply zA); exact da) | ((with_reducible apply zS); exact ds) | ((with_reducible apply zY); exact rfl; exact rfl; exact tf) | ((with_reducible apply zG); exact rfl; exact rfl; exact tf) | ((with_reducible apply zU); exact rfl; exact rfl) | ((with_reducible apply zD); exact rfl; exact rfl) | ((with_reducible apply zB); exact rfl; exact rfl)))
  clear hid
  refine awp_loopL (α := Nat) (fun k => [(1, .ptr 1 0), (3, .d (T8 (Lib.itoa den ++ [59] ++ fmtE (c.take k)))), (4, .d (I k))]) (fun _ => [(1, ⟨24, [rgV c, I den]⟩)]) (fun k => k ≤ c.length) (fun k => c.length - k) 0 (Nat.zero_le _) (And.intro rfl (And.intro (congrArg (fun l => AV.d (T8 l)) h0) (And.intro (rfl) trivial))) (And.intro rfl trivial) fun k hk => ?_
  by_cases hlt : k < c.length
  rotate_left
  · obtain rfl : k = c.length := by omega
    rw [hend]
    clear hG hst hci
    (repeat' (first | (with_reducible first | intro hg | refine mv (by constructor) ?_) | ((with_reducible first | refine zR ?_ ?_ | refine zW mixed ?_ ?_); exact kr) | ((with_reducible apply zK); exact rfl; exact tf) | ((with_reducible apply zCD); exact rfl) | ((with_reducible apply zCN); exact rfl) | ((with_reducible apply zC); exact rfl) | ((with_reducible refine zX ?_ ?_); exact rfl) | ((with_reducible refine zE (And.intro ?_ ?_)); exact kr) | (with_reducible refine zE ?_) | ((with_reducible apply zP); exact dp) | ((with_reducible apply zN); exact dn) | ((with_reducible apply zA); exact da) | ((with_reducible apply zS); exact ds) | ((with_reducible apply zY); exact rfl; exact rfl; exact tf) | ((with_reducible apply zG); exact rfl; exact rfl; exact tf) | ((with_reducible apply zU); exact rfl; exact rfl) | ((with_reducible apply zD); exact rfl; exact rfl) | ((with_reducible apply zB); exact rfl; exact rfl)))
    ((with_reducible first | apply q_retR | apply q_retN); exact rl)
    rfl
  have hm : c.getD k rg0 ∈ c := by
    rw [List.getD_eq_getElem?_getD, List.getElem?_eq_getElem hlt]
    exact List.getElem_mem hlt
  obtain ⟨i1, i2⟩ := hci _ hm
  have h1 := decimal_A _ i1
  have h2 := decimal_A _ i2
  have l1 := (itoa_len i1).1
  have l2 := (itoa_len i2).1
  have hs := hst k hlt
  have hl := hG k
  clear hci hm hst hG hend h0 hdl i1 i2
  generalize Lib.itoa (c.getD k rg0).1 = a at *
  generalize Lib.itoa (c.getD k rg0).2 = b at *
  generalize Lib.itoa den ++ [59] ++ fmtE (c.take k) = g at *
  rcases k with _ | k
  · rw [if_pos rfl] at hs
    (repeat' (first | (with_reducible first | intro hg | refine mv (by constructor) ?_) | ((with_reducible first | refine zR ?_ ?_ | refine zW mixed ?_ ?_); exact kr) | ((with_reducible apply zK); exact rfl; exact tf) | ((with_reducible apply zCD); exact rfl) | ((with_reducible apply zCN); exact rfl) | ((with_reducible apply zC); exact rfl) | ((with_reducible refine zX ?_ ?_); exact rfl) | ((with_reducible refine zE (And.intro ?_ ?_)); exact kr) | (with_reducible refine zE ?_) | ((with_reducible apply zP); (first | exact o_indexF rg0 frC_len (by decide) rfl rfl (by omega) rfl | exact o_addT rfl rfl (by (try simp) <;> omega) (by (try simp) <;> omega) | exact dp | exact oc rfl (h1) | exact oc rfl (h2))) | ((with_reducible apply zN); exact dn) | ((with_reducible apply zA); exact da) | ((with_reducible apply zS); exact ds) | ((with_reducible apply zY); exact rfl; exact rfl; exact tf) | ((with_reducible apply zG); exact rfl; exact rfl; exact tf) | ((with_reducible apply zU); exact rfl; exact rfl) | ((with_reducible apply zD); exact rfl; exact rfl) | ((with_reducible apply zB); exact rfl; exact rfl)))
    exact ⟨0 + 1, hlt, by omega, (And.intro rfl (And.intro (congrArg (fun l => AV.d (T8 l)) hs.symm) (And.intro (rfl) trivial))), (And.intro rfl trivial)⟩
  · rw [if_neg (by omega)] at hs
    (repeat' (first | (with_reducible first | intro hg | refine mv (by constructor) ?_) | ((with_reducible first | refine zR ?_ ?_ | refine zW mixed ?_ ?_); exact kr) | ((with_reducible apply zK); exact rfl; exact tf) | ((with_reducible apply zCD); exact rfl) | ((with_reducible apply zCN); exact rfl) | ((with_reducible apply zC); exact rfl) | ((with_reducible refine zX ?_ ?_); exact rfl) | ((with_reducible refine zE (And.intro ?_ ?_)); exact kr) | (with_reducible refine zE ?_) | ((with_reducible apply zP); (first | exact o_indexF rg0 frC_len (by decide) rfl rfl (by omega) rfl | exact o_addT rfl rfl (by (try simp) <;> omega) (by (try simp) <;> omega) | exact dp | exact oc rfl (h1) | exact oc rfl (h2))) | ((with_reducible apply zN); exact dn) | ((with_reducible apply zA); exact da) | ((with_reducible apply zS); exact ds) | ((with_reducible apply zY); exact rfl; exact rfl; exact tf) | ((with_reducible apply zG); exact rfl; exact rfl; exact tf) | ((with_reducible apply zU); exact rfl; exact rfl) | ((with_reducible apply zD); exact rfl; exact rfl) | ((with_reducible apply zB); exact rfl; exact rfl)))
    exact ⟨k + 1 + 1, hlt, by omega, (And.intro rfl (And.intro (congrArg (fun l => AV.d (T8 l)) hs.symm) (And.intro (rfl) trivial))), (And.intro rfl trivial)⟩

end Go.Proofs.YtfcfmpdpjmbcnaaGreatDoor
