/- The roll that is printed on the strip: the last part of the walk. -/
import Derived.Test.YtagpmpbmfjaiiaaGreatDoorTB
set_option linter.unusedVariables false
set_option linter.unusedSimpArgs false
namespace Go.Proofs.YtagpmpbmfjaiiaaGreatDoor
open Go.RowKit
set_option maxRecDepth 20000
set_option maxHeartbeats 8000000

def dropSq : Nat → Code → Code
  | 0, c => c
  | n + 1, .seq _ y => dropSq n y
  | _ + 1, c => c
abbrev dayC (c : List (Int × Int)) (l : List Strp) (p : List Int) (g : Int) : List DV := [frS c, stS l, isl p, I g]
def own2 (G H : Int) : Nat → List (Nat × Blk)
  | 0 => []
  | k + 1 => [(290, ⟨3, ivs (lst (fun _ => G) (k + 1))⟩), (285, ⟨3, ivs (lst (fun _ => H) (k + 1))⟩)]
theorem stK_take {L : List Strp} {k : Nat} (h : k < L.length) : stK (L.take (k + 1)) = stK (L.take k) ++ strC (L.getD k s0) := by
  unfold stK
  rw [List.take_add_one, List.getD_eq_getElem?_getD, List.getElem?_eq_getElem h, List.map_append, List.flatten_append]
  simp
theorem evS_getD {l : List Strp} {k : Nat} (h : k < l.length) : (evS l).getD k s0 = ⟨0, 1000, (l.getD k s0).wear⟩ := by
  unfold evS
  rw [List.getD_eq_getElem?_getD, List.getElem?_map, List.getElem?_eq_getElem h, List.getD_eq_getElem?_getD, List.getElem?_eq_getElem h]; rfl
theorem leM_ownC {s : AS} {nm : Nat} {t : TypeId} {cs : List DV} {n : Nat} (h : ∀ k, n = k + 1 → s.mem nm = some ⟨t, cs⟩) : leM s (ownM nm t cs n) := by
  cases n with
  | zero => trivial
  | succ k => exact ⟨h k rfl, trivial⟩
theorem lstF_get (f : Nat → Int × Int) {n i : Nat} (h : i < n) : (lstF f n).getD i f0 = f i := by
  unfold lstF
  rw [List.getD_eq_getElem?_getD, List.getElem?_map, List.getElem?_range h]; rfl
theorem prTail (c : List (Int × Int)) (l : List Strp) (p : List Int) (g : Int) (hl : StOk l) (h20 : l.length ≤ 20) (hp : prE p = 0) (hgg : 30000 ≤ g ∧ g ≤ 60000) (w0 : World) (ok : Nat → Prop) :
    AWp Tryz.prog (ctx0 w0 ok Tryz.f4.ntmps) (dropSq 17 (Tryz.f4.body.getD .skip)) (ARet Tryz.prog Tryz.f4.results.toList (B true)) ⟨frL [(1, .ptr 1 0), (3, .d (I p.length))], memL [(1, ⟨50, dayC c l p g⟩)]⟩ := by
  obtain ⟨n3, n2, n9, _⟩ := prE_ok hp
  have hel : (evS l).length = l.length := by unfold evS; rw [List.length_map]
  have hS := wsum_le (evS_ok hl) 0
  rw [hel] at hS
  have hwo := worn_A flat2 (evS l) (by
    unfold wrnE
    rw [hel, decide_eq_true (by omega)]
    rfl)
  rw [evS_worn hl] at hwo
  obtain ⟨h, hh⟩ : ∃ h : Int, h = 0 - wsum (evS l) 0 := ⟨_, rfl⟩
  rw [← hh] at hwo
  have hwo : AC Tryz.prog 26 [frS flat2, stS (evS l)] (.tuple [frS [(0, h), (1000, h)], I 0]) := hwo
  have hb : -20000 ≤ h ∧ h ≤ 0 := by omega
  have hw := bwithin_A h (-20000) 0
  rw [inR_iff.2 hb] at hw
  clear hS hh hp
  generalize hn : p.length = n at *
  show AWp _ _ (.seq _ _) _ _
  (repeat' (first | (with_reducible first | intro hg | refine mv (by constructor) ?_) | ((with_reducible first | refine zR ?_ ?_ | refine zW mixed ?_ ?_); exact kr) | ((with_reducible apply zK); exact rfl; exact tf) | ((with_reducible apply zCD); exact rfl) | ((with_reducible apply zCN); exact rfl) | ((with_reducible apply zC); exact rfl) | ((with_reducible refine zX ?_ ?_); exact rfl) | ((with_reducible refine zE (And.intro ?_ ?_)); exact kr) | (with_reducible refine zE ?_) | ((with_reducible apply zP); (first | exact o_buildSlD rfl (by decide) rfl | exact dp)) | ((with_reducible apply zN); exact dn) | ((with_reducible apply zA); exact da) | ((with_reducible apply zS); exact ds) | ((with_reducible apply zY); exact rfl; exact rfl; exact tf) | ((with_reducible apply zG); exact rfl; exact rfl; exact tf) | ((with_reducible apply zU); exact rfl; exact rfl) | ((with_reducible apply zD); exact rfl; exact rfl) | ((with_reducible apply zB); exact rfl; exact rfl)))
  refine awp_loopL (α := Nat) (fun k => [(1, .ptr 1 0), (3, .d (I n)), (19, .d (frS flat2)), (20, ownZ 238 3 k), (21, .d (I k))]) (fun k => (1, ⟨50, dayC c l p g⟩) :: ownM 238 75 (stK ((evS l).take k)) k) (fun k => k ≤ l.length) (fun k => l.length - k) 0 (Nat.zero_le _) (And.intro rfl (And.intro rfl (And.intro rfl (And.intro rfl (And.intro rfl trivial))))) (And.intro rfl trivial) fun k hk => ?_
  by_cases hlt : k < l.length
  · have hsn := stK_take (L := evS l) (k := k) (by omega)
    rw [evS_getD hlt] at hsn
    have hkl : (stK ((evS l).take k)).length = k * 3 := by rw [stK_len, List.length_take, hel, Nat.min_eq_left (by omega)]
    have hcl : some (Blk.mk 75 (stK ((evS l).take k) ++ [I 0, I 1000, I (l.getD k s0).wear])) = some ⟨75, stK ((evS l).take (k + 1))⟩ := by rw [hsn]
    clear hwo hw hsn
    rcases k with _ | k
    · (repeat' (first | (with_reducible first | intro hg | refine mv (by constructor) ?_) | ((with_reducible first | refine zR ?_ ?_ | refine zW mixed ?_ ?_); exact kr) | ((with_reducible apply zK); exact rfl; exact tf) | ((with_reducible apply zCD); exact rfl) | ((with_reducible apply zCN); exact rfl) | ((with_reducible apply zC); exact rfl) | ((with_reducible refine zX ?_ ?_); exact rfl) | ((with_reducible refine zE (And.intro ?_ ?_)); exact kr) | (with_reducible refine zE ?_) | ((with_reducible apply zP); (first | exact o_indexF s0 strC_len (by decide) rfl rfl (by omega) rfl | exact dp)) | ((with_reducible apply zN); exact dn) | ((with_reducible apply zA); exact da) | ((with_reducible apply zS); exact ds) | ((with_reducible apply zY); exact rfl; exact rfl; exact tf) | ((with_reducible apply zG); exact rfl; exact rfl; exact tf) | ((with_reducible apply zU); exact rfl; exact rfl) | ((with_reducible apply zD); exact rfl; exact rfl) | ((with_reducible apply zB); exact rfl; exact rfl)))
      exact ⟨0 + 1, hlt, by omega, (And.intro rfl (And.intro rfl (And.intro rfl (And.intro rfl (And.intro rfl trivial))))), (And.intro rfl (And.intro (hcl) trivial))⟩
    · (repeat' (first | (with_reducible first | intro hg | refine mv (by constructor) ?_) | ((with_reducible first | refine zR ?_ ?_ | refine zW mixed ?_ ?_); exact kr) | ((with_reducible apply zK); exact rfl; exact tf) | ((with_reducible apply zCD); exact rfl) | ((with_reducible apply zCN); exact rfl) | ((with_reducible apply zC); exact rfl) | ((with_reducible refine zX ?_ ?_); exact rfl) | ((with_reducible refine zE (And.intro ?_ ?_)); exact kr) | (with_reducible refine zE ?_) | ((with_reducible apply zP); (first | exact o_indexF s0 strC_len (by decide) rfl rfl (by omega) rfl | exact dp)) | ((with_reducible apply zN); exact dn) | ((with_reducible apply zA); (first | ((apply o_app); (case hx => exact rfl); (case hm => exact rfl); (case hy => exact .own rfl rfl); (case hty => exact rfl); (case hl => solve | exact hkl | rfl); (case hcl => solve | rfl | exact hkl | simp); (case hpos => omega); (case hb => omega); (case hb2 => omega); (case hnew => exact rfl)) | ((apply o_app); (case hx => exact rfl); (case hm => exact rfl); (case hy => exact .sl rfl); (case hty => exact rfl); (case hl => solve | exact hkl | rfl); (case hcl => solve | rfl | exact hkl | simp); (case hpos => omega); (case hb => omega); (case hb2 => omega); (case hnew => exact rfl)) | exact da)) | ((with_reducible apply zS); exact ds) | ((with_reducible apply zY); exact rfl; exact rfl; exact tf) | ((with_reducible apply zG); exact rfl; exact rfl; exact tf) | ((with_reducible apply zU); exact rfl; exact rfl) | ((with_reducible apply zD); exact rfl; exact rfl) | ((with_reducible apply zB); exact rfl; exact rfl)))
      exact ⟨k + 1 + 1, hlt, by omega, (And.intro rfl (And.intro rfl (And.intro rfl (And.intro rfl (And.intro rfl trivial))))), (And.intro rfl (And.intro (hcl) trivial))⟩
  obtain rfl : k = l.length := by omega
  rw [show (evS l).take l.length = evS l by rw [← hel, List.take_length]]
  refine awp_ownZ 20 238 3 (t := 75) (stK (evS l)) (by rw [stK_len, hel]) rfl (fun k hk => by rw [hk]; rfl) ?_
  have hwo : AC Tryz.prog 26 [frS flat2, .slice l.length (stK (evS l))] (.tuple [frS [(0, h), (1000, h)], I 0]) := by rw [← hel]; exact hwo
  clear hel
  have hh0 : ¬ ¬ h = h := fun h => h rfl
  (repeat' (first | (with_reducible first | intro hg | refine mv (by constructor) ?_) | ((with_reducible first | refine zR ?_ ?_ | refine zW mixed ?_ ?_); exact kr) | ((with_reducible apply zK); exact rfl; exact tf) | ((with_reducible apply zCD); exact rfl) | ((with_reducible apply zCN); exact rfl) | ((with_reducible apply zC); exact rfl) | ((with_reducible refine zX ?_ ?_); exact rfl) | ((with_reducible refine zE (And.intro ?_ ?_)); exact kr) | (with_reducible refine zE ?_) | ((with_reducible apply zP); (first | exact o_indexF f0 (j := 0) (xs := [(0, h), (1000, h)]) frC_len (by decide) rfl rfl (by show 0 < 2; decide) rfl | exact o_indexF f0 (j := 1) (xs := [(0, h), (1000, h)]) frC_len (by decide) rfl rfl (by show 1 < 2; decide) rfl | exact dp | exact oc rfl (hwo) | exact oc rfl (hw))) | ((with_reducible apply zN); exact dn) | ((with_reducible apply zA); exact da) | ((with_reducible apply zS); exact ds) | ((with_reducible apply zY); exact rfl; exact rfl; exact tf) | ((with_reducible apply zG); exact rfl; exact rfl; exact tf) | ((with_reducible apply zU); exact rfl; exact rfl) | ((with_reducible apply zD); exact rfl; exact rfl) | ((with_reducible apply zB); exact rfl; exact rfl)))
  all_goals first | (exfalso; simp at hg; done) | skip
  clear hwo hw
  refine awp_loopL (α := Nat) (fun k => [(1, .ptr 1 0), (3, .d (I n)), (22, .d (frS [(0, h), (1000, h)])), (24, ownS 290 k), (25, ownS 285 k), (26, .d (I k))]) (fun k => (1, ⟨50, dayC c l p g⟩) :: own2 g (g + h) k) (fun k => k ≤ n) (fun k => n - k) 0 (Nat.zero_le _) (And.intro rfl (And.intro rfl (And.intro rfl (And.intro rfl (And.intro rfl (And.intro rfl trivial)))))) (And.intro rfl trivial) fun k hk => ?_
  by_cases hlt : k < n
  · have s1 := blk_snoc 3 (fun _ => g) k (v := g) rfl
    have s2 := blk_snoc 3 (fun _ => g + h) k (v := g + h) rfl
    rcases k with _ | k
    · (repeat' (first | (with_reducible first | intro hg | refine mv (by constructor) ?_) | ((with_reducible first | refine zR ?_ ?_ | refine zW mixed ?_ ?_); exact kr) | ((with_reducible apply zK); exact rfl; exact tf) | ((with_reducible apply zCD); exact rfl) | ((with_reducible apply zCN); exact rfl) | ((with_reducible apply zC); exact rfl) | ((with_reducible refine zX ?_ ?_); exact rfl) | ((with_reducible refine zE (And.intro ?_ ?_)); exact kr) | (with_reducible refine zE ?_) | ((with_reducible apply zP); (first | exact o_add (a := g) (b := h) rfl rfl (wr (by omega)) | exact o_indexF f0 (j := 0) (xs := [(0, h), (1000, h)]) frC_len (by decide) rfl rfl (by show 0 < 2; decide) rfl | exact dp)) | ((with_reducible apply zN); exact dn) | ((with_reducible apply zA); exact da) | ((with_reducible apply zS); exact ds) | ((with_reducible apply zY); exact rfl; exact rfl; exact tf) | ((with_reducible apply zG); exact rfl; exact rfl; exact tf) | ((with_reducible apply zU); exact rfl; exact rfl) | ((with_reducible apply zD); exact rfl; exact rfl) | ((with_reducible apply zB); exact rfl; exact rfl)))
      exact ⟨0 + 1, hlt, by omega, (And.intro rfl (And.intro rfl (And.intro rfl (And.intro rfl (And.intro rfl (And.intro rfl trivial)))))), (And.intro rfl (And.intro (s1) (And.intro (s2) trivial)))⟩
    · (repeat' (first | (with_reducible first | intro hg | refine mv (by constructor) ?_) | ((with_reducible first | refine zR ?_ ?_ | refine zW mixed ?_ ?_); exact kr) | ((with_reducible apply zK); exact rfl; exact tf) | ((with_reducible apply zCD); exact rfl) | ((with_reducible apply zCN); exact rfl) | ((with_reducible apply zC); exact rfl) | ((with_reducible refine zX ?_ ?_); exact rfl) | ((with_reducible refine zE (And.intro ?_ ?_)); exact kr) | (with_reducible refine zE ?_) | ((with_reducible apply zP); (first | exact o_add (a := g) (b := h) rfl rfl (wr (by omega)) | exact o_indexF f0 (j := 0) (xs := [(0, h), (1000, h)]) frC_len (by decide) rfl rfl (by show 0 < 2; decide) rfl | exact dp)) | ((with_reducible apply zN); exact dn) | ((with_reducible apply zA); exact da) | ((with_reducible apply zS); exact ds) | ((with_reducible apply zY); exact rfl; exact rfl; exact tf) | ((with_reducible apply zG); exact rfl; exact rfl; exact tf) | ((with_reducible apply zU); exact rfl; exact rfl) | ((with_reducible apply zD); exact rfl; exact rfl) | ((with_reducible apply zB); exact rfl; exact rfl)))
      exact ⟨k + 1 + 1, hlt, by omega, (And.intro rfl (And.intro rfl (And.intro rfl (And.intro rfl (And.intro rfl (And.intro rfl trivial)))))), (And.intro rfl (And.intro (s1) (And.intro (s2) trivial)))⟩
  obtain rfl : k = n := by omega
  rcases k with _ | k
  · omega
  refine awp_own 24 290 (n := k + 1) (t := 3) (fun _ => g) rfl (fun _ _ => rfl) ?_
  refine awp_own 25 285 (n := k + 1) (t := 3) (fun _ => g + h) rfl (fun _ _ => rfl) ?_
  have hcp := refPr_A (lst (fun _ => g + h) (k + 1)) (by rw [lst_length]; omega)
  by_cases he : prE (lst (fun _ => g + h) (k + 1)) = 0
  rotate_left
  · (repeat' (first | (with_reducible first | intro hg | refine mv (by constructor) ?_) | ((with_reducible first | refine zR ?_ ?_ | refine zW mixed ?_ ?_); exact kr) | ((with_reducible apply zK); exact rfl; exact tf) | ((with_reducible apply zCD); exact rfl) | ((with_reducible apply zCN); exact rfl) | ((with_reducible apply zC); exact rfl) | ((with_reducible refine zX ?_ ?_); exact rfl) | ((with_reducible refine zE (And.intro ?_ ?_)); exact kr) | (with_reducible refine zE ?_) | ((with_reducible apply zP); (first | exact dp | exact oc rfl (hcp))) | ((with_reducible apply zN); exact dn) | ((with_reducible apply zA); exact da) | ((with_reducible apply zS); exact ds) | ((with_reducible apply zY); exact rfl; exact rfl; exact tf) | ((with_reducible apply zG); exact rfl; exact rfl; exact tf) | ((with_reducible apply zU); exact rfl; exact rfl) | ((with_reducible apply zD); exact rfl; exact rfl) | ((with_reducible apply zB); exact rfl; exact rfl)))
    ((with_reducible first | apply q_retR | apply q_retN); exact rl)
    rfl
  have hH : 1 ≤ g + h := by
    have := (prE_ok he).2.2.2 (nth (lst (fun _ => g + h) (k + 1)) 0) (nth_mem (by rw [lst_length]; omega))
    rw [lst_nth _ (by omega)] at this
    exact this.1
  have hch := changesOf_A (lst (fun _ => g) (k + 1)) (lst (fun _ => g + h) (k + 1)) (prE_const n3 n2 n9 ⟨by omega, by omega⟩) he (by rw [lst_length, lst_length])
  rw [lst_length, chA_const (by omega) (by omega) (k + 1) (Nat.le_refl _)] at hch
  have hch : AC Tryz.prog 38 [isl (lst (fun _ => g) (k + 1)), isl (lst (fun _ => g + h) (k + 1))] (.tuple [frS (chL (lst (fun _ => g) (k + 1)) (lst (fun _ => g + h) (k + 1))), I 0]) := hch
  have hXl : (chL (lst (fun _ => g) (k + 1)) (lst (fun _ => g + h) (k + 1))).length = (k + 1) := by unfold chL; rw [lstF_len, lst_length]
  have hX : ∀ i, i < (k + 1) → (chL (lst (fun _ => g) (k + 1)) (lst (fun _ => g + h) (k + 1))).getD i f0 = (0, 1) := fun i hi => by
    unfold chL
    rw [lst_length, lstF_get _ hi]
    exact ch_const (by omega) (by omega) hi
  have wh := bwhole_A 0
  rw [he] at hcp
  generalize chL (lst (fun _ => g) (k + 1)) (lst (fun _ => g + h) (k + 1)) = X at *
  generalize lst (fun _ => g) (k + 1) = u at *
  generalize lst (fun _ => g + h) (k + 1) = v at *
  clear he hk hlt
  (repeat' (first | (with_reducible first | intro hg | refine mv (by constructor) ?_) | ((with_reducible first | refine zR ?_ ?_ | refine zW mixed ?_ ?_); exact kr) | ((with_reducible apply zK); exact rfl; exact tf) | ((with_reducible apply zCD); exact rfl) | ((with_reducible apply zCN); exact rfl) | ((with_reducible apply zC); exact rfl) | ((with_reducible refine zX ?_ ?_); exact rfl) | ((with_reducible refine zE (And.intro ?_ ?_)); exact kr) | (with_reducible refine zE ?_) | ((with_reducible apply zP); (first | exact dp | exact oc rfl (hcp) | exact oc rfl (hch))) | ((with_reducible apply zN); exact dn) | ((with_reducible apply zA); exact da) | ((with_reducible apply zS); exact ds) | ((with_reducible apply zY); exact rfl; exact rfl; exact tf) | ((with_reducible apply zG); exact rfl; exact rfl; exact tf) | ((with_reducible apply zU); exact rfl; exact rfl) | ((with_reducible apply zD); exact rfl; exact rfl) | ((with_reducible apply zB); exact rfl; exact rfl)))
  clear hcp hch
  refine awp_loopL (α := Nat) (fun i => [(3, .d (I (k + 1))), (27, .d (frS X)), (29, .d (I i))]) (fun _ => []) (fun i => i ≤ (k + 1)) (fun i => (k + 1) - i) 0 (Nat.zero_le _) (And.intro rfl (And.intro rfl (And.intro rfl trivial))) trivial fun i hi => ?_
  by_cases hlt : i < (k + 1)
  · have hx := hX i hlt
    (repeat' (first | (with_reducible first | intro hg | refine mv (by constructor) ?_) | ((with_reducible first | refine zR ?_ ?_ | refine zW mixed ?_ ?_); exact kr) | ((with_reducible apply zK); exact rfl; exact tf) | ((with_reducible apply zCD); exact rfl) | ((with_reducible apply zCN); exact rfl) | ((with_reducible apply zC); exact rfl) | ((with_reducible refine zX ?_ ?_); exact rfl) | ((with_reducible refine zE (And.intro ?_ ?_)); exact kr) | (with_reducible refine zE ?_) | ((with_reducible apply zP); (first | exact o_indexF f0 frC_len (by decide) rfl rfl (by omega) rfl | exact dp | exact oc rfl (wh))) | ((with_reducible apply zN); exact dn) | ((with_reducible apply zA); exact da) | ((with_reducible apply zS); exact ds) | ((with_reducible apply zY); exact rfl; exact rfl; exact tf) | ((with_reducible apply zG); exact rfl; exact rfl; exact tf) | ((with_reducible apply zU); exact rfl; exact rfl) | ((with_reducible apply zD); exact rfl; exact rfl) | ((with_reducible apply zB); exact rfl; exact rfl)))
    · exact absurd (by rw [hx]) hg
    · exact ⟨i + 1, hlt, by omega, (And.intro rfl (And.intro rfl (And.intro rfl trivial))), trivial⟩
  (repeat' (first | (with_reducible first | intro hg | refine mv (by constructor) ?_) | ((with_reducible first | refine zR ?_ ?_ | refine zW mixed ?_ ?_); exact kr) | ((with_reducible apply zK); exact rfl; exact tf) | ((with_reducible apply zCD); exact rfl) | ((with_reducible apply zCN); exact rfl) | ((with_reducible apply zC); exact rfl) | ((with_reducible refine zX ?_ ?_); exact rfl) | ((with_reducible refine zE (And.intro ?_ ?_)); exact kr) | (with_reducible refine zE ?_) | ((with_reducible apply zP); exact dp) | ((with_reducible apply zN); exact dn) | ((with_reducible apply zA); exact da) | ((with_reducible apply zS); exact ds) | ((with_reducible apply zY); exact rfl; exact rfl; exact tf) | ((with_reducible apply zG); exact rfl; exact rfl; exact tf) | ((with_reducible apply zU); exact rfl; exact rfl) | ((with_reducible apply zD); exact rfl; exact rfl) | ((with_reducible apply zB); exact rfl; exact rfl)))
  ((with_reducible first | apply q_retR | apply q_retN); exact rl)
  rfl

end Go.Proofs.YtagpmpbmfjaiiaaGreatDoor
