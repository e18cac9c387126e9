/- Merged: XSh XSk. -/
import Derived.Test.YtfcfmpdpjmbcnaaGreatSff
import Derived.Test.YtfcfmpdpjmbcnaaGreatSt
set_option linter.unusedVariables false
set_option linter.unusedSimpArgs false
/- The reference of runs. -/
namespace Go.Proofs.YtfcfmpdpjmbcnaaGreat
open Go.RowKit
set_option maxRecDepth 20000
set_option maxHeartbeats 8000000

/-- What the reference's states want. -/
structure QsOk (den : Int) (x : List Int) (cs : List (List Int)) (es : List Int) : Prop where
  d : 1 ≤ den ∧ den ≤ 10
  l1 : 1 ≤ x.length
  l3 : x.length ≤ 3
  xb : ∀ i, (nth x i).natAbs ≤ 100
  cl : cs.length ≤ 9
  cf : CfOk x.length cs
  el : cs.length ≤ es.length
  em : es.length ≤ 1000000
  eb : ∀ t, (nth es t).natAbs ≤ 100
theorem rev_take {x : List Int} {k : Nat} (h : k < x.length) : x.reverse.take (k + 1) = x.reverse.take k ++ [nth x (x.length - 1 - k)] := by
  rw [take_getD (by rw [List.length_reverse]; exact h)]
  congr 2
  unfold nth
  rw [List.getD_eq_getElem?_getD, List.getElem?_reverse h, List.getD_eq_getElem?_getD]
theorem outL_zero (den : Int) (cs : List (List Int)) (es x : List Int) : outL den cs es x 0 = x.reverse.map fun (n : Int) => (n : Rat) := by
  unfold outL
  rw [List.range_zero, List.map_nil, List.append_nil, List.map_reverse]
def nmT (t : Nat) : Nat := bif t == 0 then 28 else 73
theorem states_A (c : List Rg) (den : Int) (x : List Int) (cs : List (List Int)) (es : List Int) (h : QsOk den x cs es) : AC Tryz.prog 20 [loV c den, isl x, llV cs, isl es] (.slice (x.length + cs.length) (raS (outL den cs es x cs.length))) := by
  obtain ⟨hd, l1, l3, hx, hcl, hcf, hel, hem, heb⟩ := h
  have hov0 := hst_ov hd hx heb l3 hcf
  have h0 := outL_zero den cs es x
  refine ac_body Tryz.func20 rfl (by kernel_rfl) fun w0 ok => ?_; show AWp _ (ctx0 w0 ok _) _ (ARet _ _ _) (entry _)
  (repeat' (first | (with_reducible first | intro hg | refine mv (by constructor) ?_) | ((with_reducible first | refine zR ?_ ?_ | refine zW mixed ?_ ?_); exact kr) | ((with_reducible apply zK); exact rfl; exact tf) | ((with_reducible apply zCD); exact rfl) | ((with_reducible apply zCN); exact rfl) | ((with_reducible apply zC); exact rfl) | ((with_reducible refine zX ?_ ?_); exact rfl) | ((with_reducible refine zE (And.intro ?_ ?_)); exact kr) | (with_reducible refine zE ?_) | ((with_reducible apply zP); exact dp) | ((with_reducible apply zN); exact dn) | ((with_reducible apply zA); exact da) | ((with_reducible apply zS); exact ds) | ((with_reducible apply zY); exact rfl; exact rfl; exact tf) | ((with_reducible apply zG); exact rfl; exact rfl; exact tf) | ((with_reducible apply zU); exact rfl; exact rfl) | ((with_reducible apply zD); exact rfl; exact rfl) | ((with_reducible apply zB); exact rfl; exact rfl)))
  refine awp_loopL (α := Nat) (fun k => [(1, .d (isl x)), (2, .d (llV cs)), (3, .d (isl es)), (4, .ptr 4 0), (9, ownZ 28 4 k), (10, .d (I ((x.length : Int) - 1 - k)))]) (fun k => (4, ⟨24, [rgV c, I den]⟩) :: ownM 28 57 (raS ((x.reverse.take k).map fun (n : Int) => (n : Rat))) k) (fun k => k ≤ x.length) (fun k => x.length - k) 0 (Nat.zero_le _) (And.intro rfl (And.intro rfl (And.intro rfl (And.intro rfl (And.intro rfl (And.intro (congrArg (fun n : Int => AV.d (I n)) (by omega)) trivial)))))) (And.intro rfl trivial) fun k hk => ?_
  by_cases hlt : k < x.length
  · have hr := rev_take hlt
    have hxk := hx (x.length - 1 - k)
    have w := ratioInt_A (nth x (x.length - 1 - k)) ⟨by omega, by omega⟩
    have hsn : raS ((x.reverse.take k).map fun (n : Int) => (n : Rat)) ++ ratC ((nth x (x.length - 1 - k) : Int) : Rat) = raS ((x.reverse.take (k + 1)).map fun (n : Int) => (n : Rat)) := by rw [hr, List.map_append]; exact raS_snoc _ _
    have hln := raS_len ((x.reverse.take k).map fun (n : Int) => (n : Rat))
    rw [List.length_map, List.length_take, List.length_reverse, Nat.min_eq_left hk] at hln
    have hix : (x.length : Int) - 1 - k = ((x.length - 1 - k : Nat) : Int) := by omega
    have hix2 : x.length - 1 - k < x.length := by omega
    rw [hix]
    have hnx : ((x.length - 1 - k : Nat) : Int) - 1 = (x.length : Int) - 1 - ((k + 1 : Nat) : Int) := by omega
    generalize x.length - 1 - k = j at *
    rcases k with _ | k
    · (repeat' (first | (with_reducible first | intro hg | refine mv (by constructor) ?_) | ((with_reducible first | refine zR ?_ ?_ | refine zW mixed ?_ ?_); exact kr) | ((with_reducible apply zK); exact rfl; exact tf) | ((with_reducible apply zCD); exact rfl) | ((with_reducible apply zCN); exact rfl) | ((with_reducible apply zC); exact rfl) | ((with_reducible refine zX ?_ ?_); exact rfl) | ((with_reducible refine zE (And.intro ?_ ?_)); exact kr) | (with_reducible refine zE ?_) | ((with_reducible apply zP); (first | exact o_indexI (xs := x) (j := j) rfl rfl (by omega) rfl | exact dp | exact oc rfl (w))) | ((with_reducible apply zN); exact dn) | ((with_reducible apply zA); exact da) | ((with_reducible apply zS); exact ds) | ((with_reducible apply zY); exact rfl; exact rfl; exact tf) | ((with_reducible apply zG); exact rfl; exact rfl; exact tf) | ((with_reducible apply zU); exact rfl; exact rfl) | ((with_reducible apply zD); exact rfl; exact rfl) | ((with_reducible apply zB); exact rfl; exact rfl)))
      exact ⟨1, hlt, by omega, (And.intro rfl (And.intro rfl (And.intro rfl (And.intro rfl (And.intro rfl (And.intro (congrArg (fun n : Int => AV.d (I n)) hnx) trivial)))))), (And.intro rfl (And.intro (congrArg (fun l => some (Blk.mk _ l)) hsn) trivial))⟩
    · (repeat' (first | (with_reducible first | intro hg | refine mv (by constructor) ?_) | ((with_reducible first | refine zR ?_ ?_ | refine zW mixed ?_ ?_); exact kr) | ((with_reducible apply zK); exact rfl; exact tf) | ((with_reducible apply zCD); exact rfl) | ((with_reducible apply zCN); exact rfl) | ((with_reducible apply zC); exact rfl) | ((with_reducible refine zX ?_ ?_); exact rfl) | ((with_reducible refine zE (And.intro ?_ ?_)); exact kr) | (with_reducible refine zE ?_) | ((with_reducible apply zP); (first | exact o_indexI (xs := x) (j := j) rfl rfl (by omega) rfl | exact dp | exact oc rfl (w))) | ((with_reducible apply zN); exact dn) | ((with_reducible apply zA); (first | ((apply o_app); (case hx => exact rfl); (case hm => exact rfl); (case hy => exact .own rfl rfl); (case hty => exact rfl); (case hl => solve | exact hln | rfl); (case hcl => solve | rfl | exact hln | simp); (case hpos => omega); (case hb => omega); (case hb2 => omega); (case hnew => exact rfl)) | ((apply o_app); (case hx => exact rfl); (case hm => exact rfl); (case hy => exact .sl rfl); (case hty => exact rfl); (case hl => solve | exact hln | rfl); (case hcl => solve | rfl | exact hln | simp); (case hpos => omega); (case hb => omega); (case hb2 => omega); (case hnew => exact rfl)) | exact da)) | ((with_reducible apply zS); exact ds) | ((with_reducible apply zY); exact rfl; exact rfl; exact tf) | ((with_reducible apply zG); exact rfl; exact rfl; exact tf) | ((with_reducible apply zU); exact rfl; exact rfl) | ((with_reducible apply zD); exact rfl; exact rfl) | ((with_reducible apply zB); exact rfl; exact rfl)))
      exact ⟨k + 2, hlt, by omega, (And.intro rfl (And.intro rfl (And.intro rfl (And.intro rfl (And.intro rfl (And.intro (congrArg (fun n : Int => AV.d (I n)) hnx) trivial)))))), (And.intro rfl (And.intro (congrArg (fun l => some (Blk.mk _ l)) hsn) trivial))⟩
  obtain rfl : k = x.length := by omega
  have htk : x.reverse.take x.length = x.reverse := List.take_of_length_le (by rw [List.length_reverse]; exact Nat.le_refl _)
  rw [htk, ← h0]
  obtain ⟨m, hm⟩ : ∃ m, x.length = m + 1 := ⟨x.length - 1, by omega⟩
  have e9 : ownZ 28 4 x.length = .lsl 28 0 (x.length + 0) 4 := by rw [hm]; rfl
  refine awp_cut [(1, .d (isl x)), (2, .d (llV cs)), (3, .d (isl es)), (4, .ptr 4 0), (9, .lsl 28 0 (x.length + 0) 4), (10, .d (I (-1)))] [(4, ⟨24, [rgV c, I den]⟩), (28, ⟨57, raS (outL den cs es x 0)⟩)] (And.intro rfl (And.intro rfl (And.intro rfl (And.intro rfl (And.intro (e9) (And.intro (congrArg (fun n : Int => AV.d (I n)) (by omega)) trivial)))))) (And.intro rfl (And.intro (by rw [hm]; rfl) trivial)) ?_
  (repeat' (first | (with_reducible first | intro hg | refine mv (by constructor) ?_) | ((with_reducible first | refine zR ?_ ?_ | refine zW mixed ?_ ?_); exact kr) | ((with_reducible apply zK); exact rfl; exact tf) | ((with_reducible apply zCD); exact rfl) | ((with_reducible apply zCN); exact rfl) | ((with_reducible apply zC); exact rfl) | ((with_reducible refine zX ?_ ?_); exact rfl) | ((with_reducible refine zE (And.intro ?_ ?_)); exact kr) | (with_reducible refine zE ?_) | ((with_reducible apply zP); exact dp) | ((with_reducible apply zN); exact dn) | ((with_reducible apply zA); exact da) | ((with_reducible apply zS); exact ds) | ((with_reducible apply zY); exact rfl; exact rfl; exact tf) | ((with_reducible apply zG); exact rfl; exact rfl; exact tf) | ((with_reducible apply zU); exact rfl; exact rfl) | ((with_reducible apply zD); exact rfl; exact rfl) | ((with_reducible apply zB); exact rfl; exact rfl)))
  refine awp_loopL (α := Nat) (fun t => [(1, .d (isl x)), (2, .d (llV cs)), (3, .d (isl es)), (4, .ptr 4 0), (9, .lsl (nmT t) 0 (x.length + t) 4), (11, .d (I t))]) (fun t => [(4, ⟨24, [rgV c, I den]⟩), (nmT t, ⟨57, raS (outL den cs es x t)⟩)]) (fun t => t ≤ cs.length) (fun t => cs.length - t) 0 (Nat.zero_le _) (And.intro rfl (And.intro rfl (And.intro rfl (And.intro rfl (And.intro rfl (And.intro rfl trivial)))))) (And.intro rfl (And.intro rfl trivial)) fun t ht => ?_
  by_cases htl : t < cs.length
  rotate_left
  · obtain rfl : t = cs.length := by omega
    have hln := raS_len (outL den cs es x cs.length)
    rw [outL_len] at hln
    have hfz : ∀ l : List DV, l = raS (outL den cs es x cs.length) → DV.slice (x.length + cs.length) (raS (outL den cs es x cs.length)) = .slice (x.length + cs.length) ((l.drop 0).take ((x.length + cs.length) * 4)) := fun l hl => by
      subst hl
      rw [List.drop_zero, List.take_of_length_le (by omega)]
    generalize raS (outL den cs es x cs.length) = S9 at *
    generalize hcs : cs.length = T at *
    rcases T with _ | T
    · (repeat' (first | (with_reducible first | intro hg | refine mv (by constructor) ?_) | ((with_reducible first | refine zR ?_ ?_ | refine zW mixed ?_ ?_); exact kr) | ((with_reducible apply zK); exact rfl; exact tf) | ((with_reducible apply zCD); exact rfl) | ((with_reducible apply zCN); exact rfl) | ((with_reducible apply zC); exact rfl) | ((with_reducible refine zX ?_ ?_); exact rfl) | ((with_reducible refine zE (And.intro ?_ ?_)); exact kr) | (with_reducible refine zE ?_) | ((with_reducible apply zP); exact dp) | ((with_reducible apply zN); exact dn) | ((with_reducible apply zA); exact da) | ((with_reducible apply zS); exact ds) | ((with_reducible apply zY); exact rfl; exact rfl; exact tf) | ((with_reducible apply zG); exact rfl; exact rfl; exact tf) | ((with_reducible apply zU); exact rfl; exact rfl) | ((with_reducible apply zD); exact rfl; exact rfl) | ((with_reducible apply zB); exact rfl; exact rfl)))
      ((with_reducible first | apply q_retR | apply q_retN); exact rl)
      exact hfz _ rfl
    · (repeat' (first | (with_reducible first | intro hg | refine mv (by constructor) ?_) | ((with_reducible first | refine zR ?_ ?_ | refine zW mixed ?_ ?_); exact kr) | ((with_reducible apply zK); exact rfl; exact tf) | ((with_reducible apply zCD); exact rfl) | ((with_reducible apply zCN); exact rfl) | ((with_reducible apply zC); exact rfl) | ((with_reducible refine zX ?_ ?_); exact rfl) | ((with_reducible refine zE (And.intro ?_ ?_)); exact kr) | (with_reducible refine zE ?_) | ((with_reducible apply zP); exact dp) | ((with_reducible apply zN); exact dn) | ((with_reducible apply zA); exact da) | ((with_reducible apply zS); exact ds) | ((with_reducible apply zY); exact rfl; exact rfl; exact tf) | ((with_reducible apply zG); exact rfl; exact rfl; exact tf) | ((with_reducible apply zU); exact rfl; exact rfl) | ((with_reducible apply zD); exact rfl; exact rfl) | ((with_reducible apply zB); exact rfl; exact rfl)))
      ((with_reducible first | apply q_retR | apply q_retN); exact rl)
      exact hfz _ rfl
  have hrl := hcf.l t htl
  have hcb := fun i => hcf.b t i
  have hov := hov0 t ht
  have hett := heb t
  have hB := bB8 (t := t) (by omega)
  have hD1 := pow_rng hd (t := t) (by omega)
  have hD2 := pow_rng hd (t := t + 1) (by omega)
  have hstR := fun i => (hov i).ratS (by omega) (by omega) (by omega)
  have hsum : ∀ i, i ≤ 3 → RatS 3 (tkS den (cs.getD t []) (nth es t) (hst den cs es x t) i) := fun i hi3 => by
    have h1 := tkS_ov (d := nth es t) (cs := cs.getD t []) (show den ≠ 0 by omega) hov hcb i
    rw [← Int.pow_succ] at h1
    have h1 : Ov (den ^ (t + 1)) ((nth es t).natAbs * (den ^ (t + 1)).natAbs + i * (10 * bB t)) (tkS den (cs.getD t []) (nth es t) (hst den cs es x t) i) := h1
    have h2 : (nth es t).natAbs * (den ^ (t + 1)).natAbs ≤ 100 * 1000000000 := Nat.mul_le_mul hett (by omega)
    have h3 : i * (10 * bB t) ≤ 3 * (10 * bB t) := Nat.mul_le_mul_right _ hi3
    exact h1.ratS (by omega) (by omega) (by omega)
  have wre := ratioInt_A (nth es t) ⟨by omega, by omega⟩
  clear hov0 hcf hx heb hB hD1 hD2 h0
  rcases t with _ | t
  · have hs := outL_snoc den cs es x (0)
    have hln := raS_len (outL den cs es x (0))
    rw [outL_len] at hln
    have hoa := fun i hi => outL_back den cs es x (t := 0) (i := i) hi
    have hol := outL_len den cs es x (0)
    (repeat' (first | (with_reducible first | intro hg | refine mv (by constructor) ?_) | ((with_reducible first | refine zR ?_ ?_ | refine zW mixed ?_ ?_); exact kr) | ((with_reducible apply zK); exact rfl; exact tf) | ((with_reducible apply zCD); exact rfl) | ((with_reducible apply zCN); exact rfl) | ((with_reducible apply zC); exact rfl) | ((with_reducible refine zX ?_ ?_); exact rfl) | ((with_reducible refine zE (And.intro ?_ ?_)); exact kr) | (with_reducible refine zE ?_) | ((with_reducible apply zP); (first | exact o_indexI (xs := es) (j := 0) rfl rfl (by omega) rfl | exact dp | exact oc rfl (wre))) | ((with_reducible apply zN); exact dn) | ((with_reducible apply zA); exact da) | ((with_reducible apply zS); exact ds) | ((with_reducible apply zY); exact rfl; exact rfl; exact tf) | ((with_reducible apply zG); exact rfl; exact rfl; exact tf) | ((with_reducible apply zU); exact rfl; exact rfl) | ((with_reducible apply zD); exact rfl; exact rfl) | ((with_reducible apply zB); exact rfl; exact rfl)))
    refine awp_loopL (α := Nat) (fun i => [(1, .d (isl x)), (2, .d (llV cs)), (3, .d (isl es)), (4, .ptr 4 0), (9, .lsl 28 0 (x.length + (0)) 4), (11, .d (I (0 : Nat))), (12, .ptr 12 0), (13, .d (I i))]) (fun i => [(4, ⟨24, [rgV c, I den]⟩), (12, ⟨57, ratC (tkS den (cs.getD (0) []) (nth es (0)) (hst den cs es x (0)) i)⟩), (28, ⟨57, raS (outL den cs es x (0))⟩)]) (fun i => i ≤ x.length) (fun i => x.length - i) 0 (Nat.zero_le _) (And.intro rfl (And.intro rfl (And.intro rfl (And.intro rfl (And.intro rfl (And.intro rfl (And.intro rfl (And.intro rfl trivial)))))))) (And.intro rfl (And.intro rfl (And.intro rfl trivial))) fun i hi => ?_
    by_cases hil : i < x.length
    rotate_left
    · obtain rfl : i = x.length := by omega
      have hv : vlt den cs es x (0) = tkS den (cs.getD (0) []) (nth es (0)) (hst den cs es x (0)) x.length := by rw [← hrl]; rfl
      rw [hv] at hs
      have hnew : raS (outL den cs es x (0)) ++ ratC (tkS den (cs.getD (0) []) (nth es (0)) (hst den cs es x (0)) x.length) = raS (outL den cs es x (0 + 1)) := by rw [hs]; exact raS_snoc _ _
      have hln : (raS (outL den cs es x (0))).length = (x.length + (0)) * 4 := hln
      clear hov hsum hoa
      (repeat' (first | (with_reducible first | intro hg | refine mv (by constructor) ?_) | ((with_reducible first | refine zR ?_ ?_ | refine zW mixed ?_ ?_); exact kr) | ((with_reducible apply zK); exact rfl; exact tf) | ((with_reducible apply zCD); exact rfl) | ((with_reducible apply zCN); exact rfl) | ((with_reducible apply zC); exact rfl) | ((with_reducible refine zX ?_ ?_); exact rfl) | ((with_reducible refine zE (And.intro ?_ ?_)); exact kr) | (with_reducible refine zE ?_) | ((with_reducible apply zP); (first | exact o_indexF [] (j := 0) llC_len (by decide) rfl rfl (by omega) rfl | exact dp)) | ((with_reducible apply zN); exact dn) | ((with_reducible apply zA); (first | ((apply o_app); (case hx => exact rfl); (case hm => exact rfl); (case hy => exact .own rfl rfl); (case hty => exact rfl); (case hl => solve | exact hln | rfl); (case hcl => solve | rfl | exact hln | simp); (case hpos => omega); (case hb => omega); (case hb2 => omega); (case hnew => exact rfl)) | ((apply o_app); (case hx => exact rfl); (case hm => exact rfl); (case hy => exact .sl rfl); (case hty => exact rfl); (case hl => solve | exact hln | rfl); (case hcl => solve | rfl | exact hln | simp); (case hpos => omega); (case hb => omega); (case hb2 => omega); (case hnew => exact rfl)) | exact da)) | ((with_reducible apply zS); exact ds) | ((with_reducible apply zY); exact rfl; exact rfl; exact tf) | ((with_reducible apply zG); exact rfl; exact rfl; exact tf) | ((with_reducible apply zU); exact rfl; exact rfl) | ((with_reducible apply zD); exact rfl; exact rfl) | ((with_reducible apply zB); exact rfl; exact rfl)))
      exact ⟨0 + 1, htl, by omega, (And.intro rfl (And.intro rfl (And.intro rfl (And.intro rfl (And.intro rfl (And.intro rfl trivial)))))), (And.intro rfl (And.intro (congrArg (fun l => some (Blk.mk _ l)) hnew) trivial))⟩
    have hsi := hsum i (by omega)
    have hs1 := hsum (i + 1) (by omega)
    have hci := hcb i
    have hsr := hstR i
    have hgt := hoa i (by omega)
    have a1 := ratioOf_A (nth (cs.getD (0) []) i) den ⟨by omega, by omega⟩ ⟨by omega, by omega⟩ (by omega)
    have hd1 := divInt_ratS (a := nth (cs.getD (0) []) i) (b := den) (by omega) (by omega) (by omega)
    have a2 := ratioMul_A (hd1.mono (by decide)) (hsr.mono (show 3 ≤ 10000 by decide))
    have a3 := ratioAdd_A (hsi.mono (show 3 ≤ 10000 by decide)) ((hd1.mul hsr).mono (show 3 + 3 ≤ 10000 by decide))
    have hsu : tkS den (cs.getD (0) []) (nth es (0)) (hst den cs es x (0)) (i + 1) = tkS den (cs.getD (0) []) (nth es (0)) (hst den cs es x (0)) i + Rat.divInt (nth (cs.getD (0) []) i) den * (hst den cs es x (0)).getD i 0 := rfl
    rw [← hsu] at a3
    rw [← hgt] at a2 a3
    clear hsum hstR hsi hs1 hsr hoa hd1 hsu hgt hcb hov
    obtain ⟨j, hj⟩ : ∃ j, j = x.length + (0) - 1 - i := ⟨_, rfl⟩
    rw [← hj] at a2 a3
    (repeat' (first | (with_reducible first | intro hg | refine mv (by constructor) ?_) | ((with_reducible first | refine zR ?_ ?_ | refine zW mixed ?_ ?_); exact kr) | ((with_reducible apply zK); exact rfl; exact tf) | ((with_reducible apply zCD); exact rfl) | ((with_reducible apply zCN); exact rfl) | ((with_reducible apply zC); exact rfl) | ((with_reducible refine zX ?_ ?_); exact rfl) | ((with_reducible refine zE (And.intro ?_ ?_)); exact kr) | (with_reducible refine zE ?_) | ((with_reducible apply zP); (first | exact o_indexF [] (j := 0) llC_len (by decide) rfl rfl (by omega) rfl | exact o_indexI (xs := cs.getD (0) []) (j := i) rfl rfl (by omega) rfl | exact o_indexL (o := j * 4) rfl rfl (by omega) (by omega) (by omega) | exact o_loadFA (0 : Rat) j ratC_len rfl rfl rfl (by omega) | exact dp | exact oc rfl (a1) | exact oc rfl (a2) | exact oc rfl (a3))) | ((with_reducible apply zN); exact dn) | ((with_reducible apply zA); exact da) | ((with_reducible apply zS); exact ds) | ((with_reducible apply zY); exact rfl; exact rfl; exact tf) | ((with_reducible apply zG); exact rfl; exact rfl; exact tf) | ((with_reducible apply zU); exact rfl; exact rfl) | ((with_reducible apply zD); exact rfl; exact rfl) | ((with_reducible apply zB); exact rfl; exact rfl)))
    exact ⟨i + 1, hil, by omega, (And.intro rfl (And.intro rfl (And.intro rfl (And.intro rfl (And.intro rfl (And.intro rfl (And.intro rfl (And.intro rfl trivial)))))))), (And.intro rfl (And.intro rfl (And.intro rfl trivial)))⟩
  · have hs := outL_snoc den cs es x (t + 1)
    have hln := raS_len (outL den cs es x (t + 1))
    rw [outL_len] at hln
    have hoa := fun i hi => outL_back den cs es x (t := t + 1) (i := i) hi
    have hol := outL_len den cs es x (t + 1)
    (repeat' (first | (with_reducible first | intro hg | refine mv (by constructor) ?_) | ((with_reducible first | refine zR ?_ ?_ | refine zW mixed ?_ ?_); exact kr) | ((with_reducible apply zK); exact rfl; exact tf) | ((with_reducible apply zCD); exact rfl) | ((with_reducible apply zCN); exact rfl) | ((with_reducible apply zC); exact rfl) | ((with_reducible refine zX ?_ ?_); exact rfl) | ((with_reducible refine zE (And.intro ?_ ?_)); exact kr) | (with_reducible refine zE ?_) | ((with_reducible apply zP); (first | exact o_indexI (xs := es) (j := t + 1) rfl rfl (by omega) rfl | exact dp | exact oc rfl (wre))) | ((with_reducible apply zN); exact dn) | ((with_reducible apply zA); exact da) | ((with_reducible apply zS); exact ds) | ((with_reducible apply zY); exact rfl; exact rfl; exact tf) | ((with_reducible apply zG); exact rfl; exact rfl; exact tf) | ((with_reducible apply zU); exact rfl; exact rfl) | ((with_reducible apply zD); exact rfl; exact rfl) | ((with_reducible apply zB); exact rfl; exact rfl)))
    refine awp_loopL (α := Nat) (fun i => [(1, .d (isl x)), (2, .d (llV cs)), (3, .d (isl es)), (4, .ptr 4 0), (9, .lsl 73 0 (x.length + (t + 1)) 4), (11, .d (I (t + 1 : Nat))), (12, .ptr 12 0), (13, .d (I i))]) (fun i => [(4, ⟨24, [rgV c, I den]⟩), (12, ⟨57, ratC (tkS den (cs.getD (t + 1) []) (nth es (t + 1)) (hst den cs es x (t + 1)) i)⟩), (73, ⟨57, raS (outL den cs es x (t + 1))⟩)]) (fun i => i ≤ x.length) (fun i => x.length - i) 0 (Nat.zero_le _) (And.intro rfl (And.intro rfl (And.intro rfl (And.intro rfl (And.intro rfl (And.intro rfl (And.intro rfl (And.intro rfl trivial)))))))) (And.intro rfl (And.intro rfl (And.intro rfl trivial))) fun i hi => ?_
    by_cases hil : i < x.length
    rotate_left
    · obtain rfl : i = x.length := by omega
      have hv : vlt den cs es x (t + 1) = tkS den (cs.getD (t + 1) []) (nth es (t + 1)) (hst den cs es x (t + 1)) x.length := by rw [← hrl]; rfl
      rw [hv] at hs
      have hnew : raS (outL den cs es x (t + 1)) ++ ratC (tkS den (cs.getD (t + 1) []) (nth es (t + 1)) (hst den cs es x (t + 1)) x.length) = raS (outL den cs es x (t + 1 + 1)) := by rw [hs]; exact raS_snoc _ _
      have hln : (raS (outL den cs es x (t + 1))).length = (x.length + (t + 1)) * 4 := hln
      clear hov hsum hoa
      (repeat' (first | (with_reducible first | intro hg | refine mv (by constructor) ?_) | ((with_reducible first | refine zR ?_ ?_ | refine zW mixed ?_ ?_); exact kr) | ((with_reducible apply zK); exact rfl; exact tf) | ((with_reducible apply zCD); exact rfl) | ((with_reducible apply zCN); exact rfl) | ((with_reducible apply zC); exact rfl) | ((with_reducible refine zX ?_ ?_); exact rfl) | ((with_reducible refine zE (And.intro ?_ ?_)); exact kr) | (with_reducible refine zE ?_) | ((with_reducible apply zP); (first | exact o_indexF [] (j := t + 1) llC_len (by decide) rfl rfl (by omega) rfl | exact dp)) | ((with_reducible apply zN); exact dn) | ((with_reducible apply zA); (first | ((apply o_app); (case hx => exact rfl); (case hm => exact rfl); (case hy => exact .own rfl rfl); (case hty => exact rfl); (case hl => solve | exact hln | rfl); (case hcl => solve | rfl | exact hln | simp); (case hpos => omega); (case hb => omega); (case hb2 => omega); (case hnew => exact rfl)) | ((apply o_app); (case hx => exact rfl); (case hm => exact rfl); (case hy => exact .sl rfl); (case hty => exact rfl); (case hl => solve | exact hln | rfl); (case hcl => solve | rfl | exact hln | simp); (case hpos => omega); (case hb => omega); (case hb2 => omega); (case hnew => exact rfl)) | exact da)) | ((with_reducible apply zS); exact ds) | ((with_reducible apply zY); exact rfl; exact rfl; exact tf) | ((with_reducible apply zG); exact rfl; exact rfl; exact tf) | ((with_reducible apply zU); exact rfl; exact rfl) | ((with_reducible apply zD); exact rfl; exact rfl) | ((with_reducible apply zB); exact rfl; exact rfl)))
      exact ⟨t + 1 + 1, htl, by omega, (And.intro rfl (And.intro rfl (And.intro rfl (And.intro rfl (And.intro rfl (And.intro rfl trivial)))))), (And.intro rfl (And.intro (congrArg (fun l => some (Blk.mk _ l)) hnew) trivial))⟩
    have hsi := hsum i (by omega)
    have hs1 := hsum (i + 1) (by omega)
    have hci := hcb i
    have hsr := hstR i
    have hgt := hoa i (by omega)
    have a1 := ratioOf_A (nth (cs.getD (t + 1) []) i) den ⟨by omega, by omega⟩ ⟨by omega, by omega⟩ (by omega)
    have hd1 := divInt_ratS (a := nth (cs.getD (t + 1) []) i) (b := den) (by omega) (by omega) (by omega)
    have a2 := ratioMul_A (hd1.mono (by decide)) (hsr.mono (show 3 ≤ 10000 by decide))
    have a3 := ratioAdd_A (hsi.mono (show 3 ≤ 10000 by decide)) ((hd1.mul hsr).mono (show 3 + 3 ≤ 10000 by decide))
    have hsu : tkS den (cs.getD (t + 1) []) (nth es (t + 1)) (hst den cs es x (t + 1)) (i + 1) = tkS den (cs.getD (t + 1) []) (nth es (t + 1)) (hst den cs es x (t + 1)) i + Rat.divInt (nth (cs.getD (t + 1) []) i) den * (hst den cs es x (t + 1)).getD i 0 := rfl
    rw [← hsu] at a3
    rw [← hgt] at a2 a3
    clear hsum hstR hsi hs1 hsr hoa hd1 hsu hgt hcb hov
    obtain ⟨j, hj⟩ : ∃ j, j = x.length + (t + 1) - 1 - i := ⟨_, rfl⟩
    rw [← hj] at a2 a3
    (repeat' (first | (with_reducible first | intro hg | refine mv (by constructor) ?_) | ((with_reducible first | refine zR ?_ ?_ | refine zW mixed ?_ ?_); exact kr) | ((with_reducible apply zK); exact rfl; exact tf) | ((with_reducible apply zCD); exact rfl) | ((with_reducible apply zCN); exact rfl) | ((with_reducible apply zC); exact rfl) | ((with_reducible refine zX ?_ ?_); exact rfl) | ((with_reducible refine zE (And.intro ?_ ?_)); exact kr) | (with_reducible refine zE ?_) | ((with_reducible apply zP); (first | exact o_indexF [] (j := t + 1) llC_len (by decide) rfl rfl (by omega) rfl | exact o_indexI (xs := cs.getD (t + 1) []) (j := i) rfl rfl (by omega) rfl | exact o_indexL (o := j * 4) rfl rfl (by omega) (by omega) (by omega) | exact o_loadFA (0 : Rat) j ratC_len rfl rfl rfl (by omega) | exact dp | exact oc rfl (a1) | exact oc rfl (a2) | exact oc rfl (a3))) | ((with_reducible apply zN); exact dn) | ((with_reducible apply zA); exact da) | ((with_reducible apply zS); exact ds) | ((with_reducible apply zY); exact rfl; exact rfl; exact tf) | ((with_reducible apply zG); exact rfl; exact rfl; exact tf) | ((with_reducible apply zU); exact rfl; exact rfl) | ((with_reducible apply zD); exact rfl; exact rfl) | ((with_reducible apply zB); exact rfl; exact rfl)))
    exact ⟨i + 1, hil, by omega, (And.intro rfl (And.intro rfl (And.intro rfl (And.intro rfl (And.intro rfl (And.intro rfl (And.intro rfl (And.intro rfl trivial)))))))), (And.intro rfl (And.intro rfl (And.intro rfl trivial)))⟩

end Go.Proofs.YtfcfmpdpjmbcnaaGreat

/- The reference's run of a loop. -/
namespace Go.Proofs.YtfcfmpdpjmbcnaaGreat
open Go.RowKit
set_option maxRecDepth 20000
set_option maxHeartbeats 8000000

end Go.Proofs.YtfcfmpdpjmbcnaaGreat
