/- Merged: XSh XSi XSj. -/
import Derived.Test.YtagpmpbmfjaiiaaGreatDoorSd
import Derived.Test.YtagpmpbmfjaiiaaGreatDoorSl
import Derived.Test.YtagpmpbmfjaiiaaGreatDoorSg
set_option linter.unusedVariables false
set_option linter.unusedSimpArgs false
/- The rules of a string, by the package. -/
namespace Go.Proofs.YtagpmpbmfjaiiaaGreatDoor
open Go.RowKit
set_option maxRecDepth 20000
set_option maxHeartbeats 8000000

theorem actOf_len {l : List Int} (h : 2 ≤ l.length) : actOf l = some ⟨nth l 0, nth l 1, l.drop 2⟩ := by
  match l, h with
  | a :: b :: l, _ => rfl
theorem actOf_short {l : List Int} (h : l.length < 2) : actOf l = none := by
  match l, h with
  | [], _ => rfl
  | [a], _ => rfl
  | a :: b :: l, h => simp at h; omega
theorem partsA_mem : ∀ (r : List (List UInt8)) (A : List Act3), partsA r = some A → A.length = r.length ∧ ∀ a ∈ A, ∃ w ∈ r, partA w = some a
  | [], A, h => by injection h with h; subst h; exact ⟨rfl, fun a ha => by cases ha⟩
  | p :: r, A, h => by
    have e : partsA (p :: r) = match partA p with | none => none | some v => match partsA r with | none => none | some l => some (v :: l) := rfl
    rw [e] at h
    cases hp : partA p with
    | none => rw [hp] at h; cases h
    | some v =>
      rw [hp] at h
      cases hr : partsA r with
      | none => rw [hr] at h; cases h
      | some k =>
        rw [hr] at h
        injection h with h
        subst h
        obtain ⟨h1, h2⟩ := partsA_mem r k hr
        refine ⟨by rw [List.length_cons, List.length_cons, h1], fun a ha => ?_⟩
        rcases List.mem_cons.1 ha with rfl | ha
        · exact ⟨p, List.mem_cons_self, hp⟩
        · obtain ⟨w, h3, h4⟩ := h2 a ha
          exact ⟨w, List.mem_cons_of_mem _ h3, h4⟩
theorem partA_len {w : List UInt8} {a : Act3} (h : partA w = some a) : a.eff.length ≤ w.length := by
  unfold partA at h
  obtain ⟨l, h1, h2⟩ := Option.bind_eq_some_iff.1 h
  have h3 := parL_len h1
  by_cases h4 : 2 ≤ l.length
  · rw [actOf_len h4] at h2
    injection h2 with h2
    subst h2
    show (l.drop 2).length ≤ _
    rw [List.length_drop]
    omega
  · rw [actOf_short (by omega)] at h2; cases h2
theorem rulP_eq {ps : List (List UInt8)} (h : 0 < ps.length) : rulP ps = match parL true 6 (ps.getD 0 []) with
    | none => none
    | some T => match partsA (ps.drop 1) with
      | none => none
      | some A => some (T, A) := by
  cases ps with
  | nil => exact absurd h (by decide)
  | cons w r => rfl
/-- What is known behind k pieces. -/
def prJ (ps : List (List UInt8)) : Nat → List Int → List Act3 → Prop
  | 0, _, A => A = []
  | k + 1, T, A => parL true 6 (ps.getD 0 []) = some T ∧ partsA ((ps.drop 1).take k) = some A
def tgC : Nat → List Int → DV
  | 0, _ => nilV
  | _ + 1, T => isl T
abbrev zRul : DV := .agg [nilV, nilV]
theorem acts_app (A : List Act3) (a : Act3) : acts (A ++ [a]) = acts A ++ actC a := by
  unfold acts
  rw [List.map_append, List.flatten_append]
  simp
theorem drop_take_getD {ps : List (List UInt8)} {k : Nat} (h : k + 1 < ps.length) : (ps.drop 1).take (k + 1) = (ps.drop 1).take k ++ [ps.getD (k + 1) []] := by
  rw [List.take_add_one, List.getElem?_drop, show 1 + k = k + 1 by omega, List.getD_eq_getElem?_getD, List.getElem?_eq_getElem h]; rfl
theorem rulP_bad0 {ps : List (List UInt8)} (h : 0 < ps.length) (hp : parL true 6 (ps.getD 0 []) = none) : rulP ps = none := by rw [rulP_eq h, hp]
theorem rulP_bad {ps : List (List UInt8)} {k : Nat} (h : k + 1 < ps.length) (hp : partA (ps.getD (k + 1) []) = none) : rulP ps = none := by
  have hm : ps.getD (k + 1) [] ∈ ps.drop 1 := by
    refine List.mem_of_getElem? (i := k) ?_
    rw [List.getElem?_drop, show 1 + k = k + 1 by omega, List.getD_eq_getElem?_getD, List.getElem?_eq_getElem h]; rfl
  rw [rulP_eq (by omega), partsA_none _ _ hm hp]
  cases parL true 6 (ps.getD 0 []) <;> rfl
theorem rulP_good {ps : List (List UInt8)} {T : List Int} {A : List Act3} (h : 0 < ps.length) (hT : parL true 6 (ps.getD 0 []) = some T) (hA : partsA ((ps.drop 1).take (ps.length - 1)) = some A) : rulP ps = some (T, A) := by
  rw [List.take_of_length_le (by rw [List.length_drop]; exact Nat.le_refl _)] at hA
  rw [rulP_eq h, hT, hA]
theorem rulP_len {s : List UInt8} {T : List Int} {A : List Act3} (h : rulP (cutA 59 [] s) = some (T, A)) : T.length ≤ s.length + 1 ∧ A.length ≤ s.length + 1 ∧ ∀ a ∈ A, a.eff.length ≤ s.length := by
  have hmem := cutA_mem 59 s []
  have hlen := cutA_len 59 s []
  rw [rulP_eq (cutA_pos 59 s [])] at h
  have hg : ((cutA 59 [] s).getD 0 []).length ≤ s.length := by
    have h0 := cutA_pos 59 s []
    have := hmem ((cutA 59 [] s).getD 0 []) (by rw [List.getD_eq_getElem?_getD, List.getElem?_eq_getElem h0]; exact List.getElem_mem h0)
    simpa using this
  cases hT : parL true 6 ((cutA 59 [] s).getD 0 []) with
  | none => rw [hT] at h; cases h
  | some T' =>
    rw [hT] at h
    cases hA : partsA ((cutA 59 [] s).drop 1) with
    | none => rw [hA] at h; cases h
    | some A' =>
      rw [hA] at h
      injection h with h
      injection h with h1 h2
      subst h1 h2
      obtain ⟨g1, g2⟩ := partsA_mem _ _ hA
      rw [List.length_drop] at g1
      refine ⟨by have := parL_len hT; omega, by omega, fun a ha => ?_⟩
      obtain ⟨w, hw, hp⟩ := g2 a ha
      have h3 := partA_len hp
      have h4 := hmem w (List.mem_of_mem_drop hw)
      simp only [List.length_nil, Nat.zero_add] at h4
      omega
theorem acts_take {A : List Act3} {n : Nat} (h : A.length = n) : (acts A).take (n * 3) = acts A := by
  subst h
  exact List.take_of_length_le (by rw [acts_len]; exact Nat.le_refl _)
theorem parseRules_A (s : List UInt8) (hs : s.length ≤ 60000) (res : DV) (h0 : rulP (cutA 59 [] s) = none → res = .tuple [zRul, I 7])
    (h1 : ∀ T A, rulP (cutA 59 [] s) = some (T, A) → (rulE T A).2 = 0 → res = .tuple [rulV T A, I 0]) (h2 : ∀ T A, rulP (cutA 59 [] s) = some (T, A) → (rulE T A).2 ≠ 0 → res = .tuple [zRul, I (rulE T A).2]) :
    AC Tryz.prog 13 [T8 s] res := by
  have hspl := split_A s 59 (by omega)
  have hlen := cutA_len 59 s []
  have hmem := cutA_mem 59 s []
  have hpos := cutA_pos 59 s []
  have hrl := fun T A h => @rulP_len s T A h
  refine ac_body Tryz.func13 rfl (by kernel_rfl) fun w0 ok => ?_; show AWp _ (ctx0 w0 ok _) _ (ARet _ _ _) (entry _)
  (repeat' (first | (with_reducible first | intro hg | refine mv (by constructor) ?_) | ((with_reducible first | refine zR ?_ ?_ | refine zW mixed ?_ ?_); exact kr) | ((with_reducible apply zK); exact rfl; exact tf) | ((with_reducible apply zCD); exact rfl) | ((with_reducible apply zCN); exact rfl) | ((with_reducible apply zC); exact rfl) | ((with_reducible refine zX ?_ ?_); exact rfl) | ((with_reducible refine zE (And.intro ?_ ?_)); exact kr) | (with_reducible refine zE ?_) | ((with_reducible apply zP); (first | exact o_lenT8 rfl | exact dp | exact oc rfl (hspl))) | ((with_reducible apply zN); exact dn) | ((with_reducible apply zA); exact da) | ((with_reducible apply zS); exact ds) | ((with_reducible apply zY); exact rfl; exact rfl; exact tf) | ((with_reducible apply zG); exact rfl; exact rfl; exact tf) | ((with_reducible apply zU); exact rfl; exact rfl) | ((with_reducible apply zD); exact rfl; exact rfl) | ((with_reducible apply zB); exact rfl; exact rfl)))
  clear hspl
  generalize cutA 59 [] s = ps at *
  simp only [List.length_nil, Nat.zero_add] at hmem
  refine awp_loopL (α := Nat × List Int × List Act3 × Nat × Nat) (fun x => (2, .ptr 2 0) :: (4, .ptr 4 0) :: (16, .d (tsl ps)) :: (17, .d (I ps.length)) :: (18, .d (I x.1)) :: lkF PN x.2.2.2.1 x.2.2.2.2 3 x.2.2.1.length)
    (fun x => (2, ⟨25, [nilV, nilV]⟩) :: (4, ⟨25, [tgC x.1 x.2.1, lkC x.2.2.2.1 x.2.2.2.2 x.2.2.1.length]⟩) :: lkM PN 90 (acts x.2.2.1) x.2.2.1.length)
    (fun x => x.1 ≤ ps.length ∧ prJ ps x.1 x.2.1 x.2.2.1 ∧ LkJ x.2.2.2.1 x.2.2.2.2 x.2.2.1.length) (fun x => ps.length - x.1) (0, [], [], 0, 0) ⟨Nat.zero_le _, rfl, .inl rfl⟩ (And.intro rfl (And.intro rfl (And.intro rfl (And.intro rfl (And.intro rfl trivial))))) (And.intro rfl (And.intro rfl trivial)) fun ⟨k, T, A, b, cap⟩ ⟨hk, hJ, hb⟩ => ?_
  have hk : k ≤ ps.length := hk
  have hJ : prJ ps k T A := hJ
  have hb : LkJ b cap A.length := hb
  by_cases hlt : k < ps.length
  rotate_left
  · obtain rfl : k = ps.length := by omega
    obtain ⟨n, hn⟩ : ∃ n, ps.length = n + 1 := ⟨ps.length - 1, by omega⟩
    rw [hn] at hJ hlt hk
    obtain ⟨hT, hA⟩ := hJ
    have hg := rulP_good hpos hT (by rw [hn]; exact hA)
    obtain ⟨l1, l2, l3⟩ := hrl T A hg
    have hck := checkRules_A T A ⟨by omega, by omega, fun a ha => by have := l3 a ha; omega⟩
    have h1 := h1 T A hg
    have h2 := h2 T A hg
    rw [hn]
    clear h0 hrl hmem hpos hT hA hg l1 l2 l3 hlen
    rcases A with _ | ⟨e, A⟩
    · refine awp_turn (turns_nilC 4 1 (by rfl) (by rfl)) fun _ => ?_
      by_cases he : (rulE T []).2 = 0
      · obtain rfl := h1 he
        rw [he] at hck
        clear h1 h2 hn
        (repeat' (first | (with_reducible first | intro hg | refine mv (by constructor) ?_) | ((with_reducible first | refine zR ?_ ?_ | refine zW mixed ?_ ?_); exact kr) | ((with_reducible apply zK); exact rfl; exact tf) | ((with_reducible apply zCD); exact rfl) | ((with_reducible apply zCN); exact rfl) | ((with_reducible apply zC); exact rfl) | ((with_reducible refine zX ?_ ?_); exact rfl) | ((with_reducible refine zE (And.intro ?_ ?_)); exact kr) | (with_reducible refine zE ?_) | ((with_reducible apply zP); (first | exact dp | exact oc rfl (hck))) | ((with_reducible apply zN); exact dn) | ((with_reducible apply zA); exact da) | ((with_reducible apply zS); exact ds) | ((with_reducible apply zY); exact rfl; exact rfl; exact tf) | ((with_reducible apply zG); exact rfl; exact rfl; exact tf) | ((with_reducible apply zU); exact rfl; exact rfl) | ((with_reducible apply zD); exact rfl; exact rfl) | ((with_reducible apply zB); exact rfl; exact rfl)))
        ((with_reducible first | apply q_retR | apply q_retN); exact rl)
        rfl
      · obtain rfl := h2 he
        clear h1 h2 hn
        (repeat' (first | (with_reducible first | intro hg | refine mv (by constructor) ?_) | ((with_reducible first | refine zR ?_ ?_ | refine zW mixed ?_ ?_); exact kr) | ((with_reducible apply zK); exact rfl; exact tf) | ((with_reducible apply zCD); exact rfl) | ((with_reducible apply zCN); exact rfl) | ((with_reducible apply zC); exact rfl) | ((with_reducible refine zX ?_ ?_); exact rfl) | ((with_reducible refine zE (And.intro ?_ ?_)); exact kr) | (with_reducible refine zE ?_) | ((with_reducible apply zP); (first | exact dp | exact oc rfl (hck))) | ((with_reducible apply zN); exact dn) | ((with_reducible apply zA); exact da) | ((with_reducible apply zS); exact ds) | ((with_reducible apply zY); exact rfl; exact rfl; exact tf) | ((with_reducible apply zG); exact rfl; exact rfl; exact tf) | ((with_reducible apply zU); exact rfl; exact rfl) | ((with_reducible apply zD); exact rfl; exact rfl) | ((with_reducible apply zB); exact rfl; exact rfl)))
        ((with_reducible first | apply q_retR | apply q_retN); exact rl)
        rfl
    · obtain ⟨hb1, hb2⟩ := hb.resolve_left (by simp)
      refine awp_turn (turns_unlink 4 1 PN (by rfl) (by rfl) (by rfl) (by rfl) (by rfl) (by decide) hb1 hb2) fun _ => ?_
      have hw := acts_take (A := e :: A) (n := A.length + 1) rfl
      have hck' : AC Tryz.prog 55 [.agg [isl T, .slice (A.length + 1) ((acts (e :: A)).take ((A.length + 1) * 3))]] (.tuple [I (rulE T (e :: A)).1, I (rulE T (e :: A)).2]) := by rw [hw]; exact hck
      by_cases he : (rulE T (e :: A)).2 = 0
      · obtain rfl := h1 he
        rw [he] at hck'
        clear h1 h2 hn hck
        (repeat' (first | (with_reducible first | intro hg | refine mv (by constructor) ?_) | ((with_reducible first | refine zR ?_ ?_ | refine zW mixed ?_ ?_); exact kr) | ((with_reducible apply zK); exact rfl; exact tf) | ((with_reducible apply zCD); exact rfl) | ((with_reducible apply zCN); exact rfl) | ((with_reducible apply zC); exact rfl) | ((with_reducible refine zX ?_ ?_); exact rfl) | ((with_reducible refine zE (And.intro ?_ ?_)); exact kr) | (with_reducible refine zE ?_) | ((with_reducible apply zP); (first | exact dp | exact oc rfl (hck'))) | ((with_reducible apply zN); exact dn) | ((with_reducible apply zA); exact da) | ((with_reducible apply zS); exact ds) | ((with_reducible apply zY); exact rfl; exact rfl; exact tf) | ((with_reducible apply zG); exact rfl; exact rfl; exact tf) | ((with_reducible apply zU); exact rfl; exact rfl) | ((with_reducible apply zD); exact rfl; exact rfl) | ((with_reducible apply zB); exact rfl; exact rfl)))
        ((with_reducible first | apply q_retR | apply q_retN); exact rl)
        show DV.tuple [rulV T (e :: A), I 0] = DV.tuple [.agg [isl T, .slice (A.length + 1) ((acts (e :: A)).take ((A.length + 1) * 3))], I 0]
        rw [hw]
        rfl
      · obtain rfl := h2 he
        clear h1 h2 hn hck
        (repeat' (first | (with_reducible first | intro hg | refine mv (by constructor) ?_) | ((with_reducible first | refine zR ?_ ?_ | refine zW mixed ?_ ?_); exact kr) | ((with_reducible apply zK); exact rfl; exact tf) | ((with_reducible apply zCD); exact rfl) | ((with_reducible apply zCN); exact rfl) | ((with_reducible apply zC); exact rfl) | ((with_reducible refine zX ?_ ?_); exact rfl) | ((with_reducible refine zE (And.intro ?_ ?_)); exact kr) | (with_reducible refine zE ?_) | ((with_reducible apply zP); (first | exact dp | exact oc rfl (hck'))) | ((with_reducible apply zN); exact dn) | ((with_reducible apply zA); exact da) | ((with_reducible apply zS); exact ds) | ((with_reducible apply zY); exact rfl; exact rfl; exact tf) | ((with_reducible apply zG); exact rfl; exact rfl; exact tf) | ((with_reducible apply zU); exact rfl; exact rfl) | ((with_reducible apply zD); exact rfl; exact rfl) | ((with_reducible apply zB); exact rfl; exact rfl)))
        ((with_reducible first | apply q_retR | apply q_retN); exact rl)
        rfl
  have hpl : (ps.getD k []).length ≤ s.length := hmem _ (by rw [List.getD_eq_getElem?_getD, List.getElem?_eq_getElem hlt]; exact List.getElem_mem hlt)
  have hget : ((ps.map T8).drop k)[0]? = some (T8 (ps.getD k [])) := get_map [] hlt
  have hnb := fun r h0 h1 => fnumbers_A true (ps.getD k []) (by omega) r h0 h1
  clear hmem hrl h1 h2
  rcases k with _ | k
  · obtain rfl : A = [] := hJ
    cases hp : parL true 6 (ps.getD 0 []) with
    | none =>
      obtain rfl := h0 (rulP_bad0 hpos hp)
      have hnb := hnb (.tuple [nilV, B false]) (fun _ => rfl) (fun l hl => by rw [hp] at hl; cases hl)
      clear hp hpos
      (repeat' (first | (with_reducible first | intro hg | refine mv (by constructor) ?_) | ((with_reducible first | refine zR ?_ ?_ | refine zW mixed ?_ ?_); exact kr) | ((with_reducible apply zK); exact rfl; exact tf) | ((with_reducible apply zCD); exact rfl) | ((with_reducible apply zCN); exact rfl) | ((with_reducible apply zC); exact rfl) | ((with_reducible refine zX ?_ ?_); exact rfl) | ((with_reducible refine zE (And.intro ?_ ?_)); exact kr) | (with_reducible refine zE ?_) | ((with_reducible apply zP); (first | exact o_indexI (xs := ps) (f := T8) rfl rfl hlt rfl | exact o_loadR1 rfl hget | exact dp | exact oc rfl (hnb))) | ((with_reducible apply zN); exact dn) | ((with_reducible apply zA); exact da) | ((with_reducible apply zS); exact ds) | ((with_reducible apply zY); exact rfl; exact rfl; exact tf) | ((with_reducible apply zG); exact rfl; exact rfl; exact tf) | ((with_reducible apply zU); exact rfl; exact rfl) | ((with_reducible apply zD); exact rfl; exact rfl) | ((with_reducible apply zB); exact rfl; exact rfl)))
      ((with_reducible first | apply q_retR | apply q_retN); exact rl)
      rfl
    | some l =>
      have hnb := hnb (.tuple [isl l, B true]) (fun h => by rw [hp] at h; cases h) (fun u hu => by rw [hp] at hu; injection hu with hu; rw [hu])
      have hm : ps.length - (0 + 1) < ps.length - 0 := by omega
      clear hpos h0
      (repeat' (first | (with_reducible first | intro hg | refine mv (by constructor) ?_) | ((with_reducible first | refine zR ?_ ?_ | refine zW mixed ?_ ?_); exact kr) | ((with_reducible apply zK); exact rfl; exact tf) | ((with_reducible apply zCD); exact rfl) | ((with_reducible apply zCN); exact rfl) | ((with_reducible apply zC); exact rfl) | ((with_reducible refine zX ?_ ?_); exact rfl) | ((with_reducible refine zE (And.intro ?_ ?_)); exact kr) | (with_reducible refine zE ?_) | ((with_reducible apply zP); (first | exact o_indexI (xs := ps) (f := T8) rfl rfl hlt rfl | exact o_loadR1 rfl hget | exact dp | exact oc rfl (hnb))) | ((with_reducible apply zN); exact dn) | ((with_reducible apply zA); exact da) | ((with_reducible apply zS); exact ds) | ((with_reducible apply zY); exact rfl; exact rfl; exact tf) | ((with_reducible apply zG); exact rfl; exact rfl; exact tf) | ((with_reducible apply zU); exact rfl; exact rfl) | ((with_reducible apply zD); exact rfl; exact rfl) | ((with_reducible apply zB); exact rfl; exact rfl)))
      exact ⟨(0 + 1, l, [], 0, 0), ⟨hlt, ⟨hp, rfl⟩, .inl rfl⟩, hm, (And.intro rfl (And.intro rfl (And.intro rfl (And.intro rfl (And.intro rfl trivial))))), (And.intro rfl (And.intro rfl trivial))⟩
  · obtain ⟨hT, hA⟩ := hJ
    cases hp : parL true 6 (ps.getD (k + 1) []) with
    | none =>
      obtain rfl := h0 (rulP_bad hlt (by unfold partA; rw [hp]; rfl))
      have hnb := hnb (.tuple [nilV, B false]) (fun _ => rfl) (fun l hl => by rw [hp] at hl; cases hl)
      clear hp hpos hT hA h0
      (repeat' (first | (with_reducible first | intro hg | refine mv (by constructor) ?_) | ((with_reducible first | refine zR ?_ ?_ | refine zW mixed ?_ ?_); exact kr) | ((with_reducible apply zK); exact rfl; exact tf) | ((with_reducible apply zCD); exact rfl) | ((with_reducible apply zCN); exact rfl) | ((with_reducible apply zC); exact rfl) | ((with_reducible refine zX ?_ ?_); exact rfl) | ((with_reducible refine zE (And.intro ?_ ?_)); exact kr) | (with_reducible refine zE ?_) | ((with_reducible apply zP); (first | exact o_indexI (xs := ps) (f := T8) rfl rfl hlt rfl | exact o_loadR1 rfl hget | exact dp | exact oc rfl (hnb))) | ((with_reducible apply zN); exact dn) | ((with_reducible apply zA); exact da) | ((with_reducible apply zS); exact ds) | ((with_reducible apply zY); exact rfl; exact rfl; exact tf) | ((with_reducible apply zG); exact rfl; exact rfl; exact tf) | ((with_reducible apply zU); exact rfl; exact rfl) | ((with_reducible apply zD); exact rfl; exact rfl) | ((with_reducible apply zB); exact rfl; exact rfl)))
      ((with_reducible first | apply q_retR | apply q_retN); exact rl)
      rfl
    | some l =>
      have hnb := hnb (.tuple [isl l, B true]) (fun h => by rw [hp] at h; cases h) (fun u hu => by rw [hp] at hu; injection hu with hu; rw [hu])
      by_cases hl2 : 2 ≤ l.length
      rotate_left
      · obtain rfl := h0 (rulP_bad hlt (by unfold partA; rw [hp]; exact actOf_short (by omega)))
        clear hp hpos hT hA h0
        (repeat' (first | (with_reducible first | intro hg | refine mv (by constructor) ?_) | ((with_reducible first | refine zR ?_ ?_ | refine zW mixed ?_ ?_); exact kr) | ((with_reducible apply zK); exact rfl; exact tf) | ((with_reducible apply zCD); exact rfl) | ((with_reducible apply zCN); exact rfl) | ((with_reducible apply zC); exact rfl) | ((with_reducible refine zX ?_ ?_); exact rfl) | ((with_reducible refine zE (And.intro ?_ ?_)); exact kr) | (with_reducible refine zE ?_) | ((with_reducible apply zP); (first | exact o_indexI (xs := ps) (f := T8) rfl rfl hlt rfl | exact o_loadR1 rfl hget | exact dp | exact oc rfl (hnb))) | ((with_reducible apply zN); exact dn) | ((with_reducible apply zA); exact da) | ((with_reducible apply zS); exact ds) | ((with_reducible apply zY); exact rfl; exact rfl; exact tf) | ((with_reducible apply zG); exact rfl; exact rfl; exact tf) | ((with_reducible apply zU); exact rfl; exact rfl) | ((with_reducible apply zD); exact rfl; exact rfl) | ((with_reducible apply zB); exact rfl; exact rfl)))
        ((with_reducible first | apply q_retR | apply q_retN); exact rl)
        rfl
      · have hpa : partA (ps.getD (k + 1) []) = some ⟨nth l 0, nth l 1, l.drop 2⟩ := by unfold partA; rw [hp]; exact actOf_len hl2
        have hA' : partsA ((ps.drop 1).take (k + 1)) = some (A ++ [⟨nth l 0, nth l 1, l.drop 2⟩]) := by
          rw [drop_take_getD hlt, partsA_snoc _ _ _ hA, hpa]; rfl
        have hm : ps.length - (k + 1 + 1) < ps.length - (k + 1) := by omega
        have hal : A.length ≤ s.length := by
          have := (partsA_mem _ _ hA).1
          rw [List.length_take, List.length_drop] at this
          omega
        have hll : l.length ≤ 100000 := by have := parL_len hp; omega
        clear hp hpos hA h0 hpa
        rcases A with _ | ⟨x, A⟩
        · (repeat' ((fail_if_success (with_reducible show AWp _ _ (.region 12 _ _) _ _)); (first | (with_reducible first | intro hg | refine mv (by constructor) ?_) | ((with_reducible first | refine zR ?_ ?_ | refine zW mixed ?_ ?_); exact kr) | ((with_reducible apply zK); exact rfl; exact tf) | ((with_reducible apply zCD); exact rfl) | ((with_reducible apply zCN); exact rfl) | ((with_reducible apply zC); exact rfl) | ((with_reducible refine zX ?_ ?_); exact rfl) | ((with_reducible refine zE (And.intro ?_ ?_)); exact kr) | (with_reducible refine zE ?_) | ((with_reducible apply zP); (first | exact o_indexI (xs := ps) (f := T8) rfl rfl hlt rfl | exact o_loadR1 rfl hget | exact dp | exact oc rfl (hnb))) | ((with_reducible apply zN); exact dn) | ((with_reducible apply zA); exact da) | ((with_reducible apply zS); exact ds) | ((with_reducible apply zY); exact rfl; exact rfl; exact tf) | ((with_reducible apply zG); exact rfl; exact rfl; exact tf) | ((with_reducible apply zU); exact rfl; exact rfl) | ((with_reducible apply zD); exact rfl; exact rfl) | ((with_reducible apply zB); exact rfl; exact rfl))))
          ((refine awp_region_anyL mixed (l1 := [_, _, _, _, _, _, _, _, _, _, _, _, _, _, _]) rfl ?_ ?_); exact kr; (repeat' (first | (with_reducible first | intro hg | refine mv (by constructor) ?_) | ((with_reducible first | refine zR ?_ ?_ | refine zW mixed ?_ ?_); exact kr) | ((with_reducible apply zK); exact rfl; exact tf) | ((with_reducible apply zCD); exact rfl) | ((with_reducible apply zCN); exact rfl) | ((with_reducible apply zC); exact rfl) | ((with_reducible refine zX ?_ ?_); exact rfl) | ((with_reducible refine zE (And.intro ?_ ?_)); exact kr) | (with_reducible refine zE ?_) | ((with_reducible apply zP); (first | exact o_indexI (j := 0) (xs := l) rfl rfl (by omega) rfl | exact o_indexI (j := 1) (xs := l) rfl rfl (by omega) rfl | exact dp)) | ((with_reducible apply zN); exact dn) | ((with_reducible apply zA); exact da) | ((with_reducible apply zS); exact ds) | ((with_reducible apply zY); exact rfl; exact rfl; exact tf) | ((with_reducible apply zG); exact rfl; exact rfl; exact tf) | ((with_reducible apply zU); exact rfl; exact rfl) | ((with_reducible apply zD); exact rfl; exact rfl) | ((with_reducible apply zB); exact rfl; exact rfl))))
          refine wpl_turn (turns_pin 57 57 PN (by rfl) (by rfl) (by rfl) (by rfl) (by kernel_rfl)) fun y => ?_
          ((refine wpl_run (l1 := [_]) rfl ?_ ?_); exact kr; (repeat' (first | (with_reducible first | intro hg | refine mv (by constructor) ?_) | ((with_reducible first | refine zR ?_ ?_ | refine zW mixed ?_ ?_); exact kr) | ((with_reducible apply zK); exact rfl; exact tf) | ((with_reducible apply zCD); exact rfl) | ((with_reducible apply zCN); exact rfl) | ((with_reducible apply zC); exact rfl) | ((with_reducible refine zX ?_ ?_); exact rfl) | ((with_reducible refine zE (And.intro ?_ ?_)); exact kr) | (with_reducible refine zE ?_) | ((with_reducible apply zP); exact dp) | ((with_reducible apply zN); exact dn) | ((with_reducible apply zA); exact da) | ((with_reducible apply zS); exact ds) | ((with_reducible apply zY); exact rfl; exact rfl; exact tf) | ((with_reducible apply zG); exact rfl; exact rfl; exact tf) | ((with_reducible apply zU); exact rfl; exact rfl) | ((with_reducible apply zD); exact rfl; exact rfl) | ((with_reducible apply zB); exact rfl; exact rfl))))
          refine wpl_nil ?_
          (repeat' (first | (with_reducible first | intro hg | refine mv (by constructor) ?_) | ((with_reducible first | refine zR ?_ ?_ | refine zW mixed ?_ ?_); exact kr) | ((with_reducible apply zK); exact rfl; exact tf) | ((with_reducible apply zCD); exact rfl) | ((with_reducible apply zCN); exact rfl) | ((with_reducible apply zC); exact rfl) | ((with_reducible refine zX ?_ ?_); exact rfl) | ((with_reducible refine zE (And.intro ?_ ?_)); exact kr) | (with_reducible refine zE ?_) | ((with_reducible apply zP); exact dp) | ((with_reducible apply zN); exact dn) | ((with_reducible apply zA); exact da) | ((with_reducible apply zS); exact ds) | ((with_reducible apply zY); exact rfl; exact rfl; exact tf) | ((with_reducible apply zG); exact rfl; exact rfl; exact tf) | ((with_reducible apply zU); exact rfl; exact rfl) | ((with_reducible apply zD); exact rfl; exact rfl) | ((with_reducible apply zB); exact rfl; exact rfl)))
          exact ⟨(k + 1 + 1, T, [⟨nth l 0, nth l 1, l.drop 2⟩], y.1.1, y.1.2), ⟨hlt, ⟨hT, hA'⟩, .inr y.2⟩, hm, (And.intro rfl (And.intro rfl (And.intro rfl (And.intro rfl (And.intro rfl (And.intro rfl trivial)))))), (And.intro rfl (And.intro rfl (And.intro rfl trivial)))⟩
        · obtain ⟨hb1, hb2⟩ := hb.resolve_left (by simp)
          have hln : (acts (x :: A)).length = (A.length + 1) * 3 := acts_len (x :: A)
          have hal : A.length + 1 ≤ s.length := by simpa using hal
          have hbl : some (Blk.mk 90 (acts (x :: A) ++ [I (nth l 0), I (nth l 1), isl (l.drop 2)])) = some ⟨90, acts (x :: (A ++ [⟨nth l 0, nth l 1, l.drop 2⟩]))⟩ := by
            rw [← List.cons_append, acts_app]
          have e9 : (x :: A ++ [(⟨nth l 0, nth l 1, l.drop 2⟩ : Act3)]).length = A.length + 1 + 1 := by simp
          (repeat' ((fail_if_success (with_reducible show AWp _ _ (.region 12 _ _) _ _)); (first | (with_reducible first | intro hg | refine mv (by constructor) ?_) | ((with_reducible first | refine zR ?_ ?_ | refine zW mixed ?_ ?_); exact kr) | ((with_reducible apply zK); exact rfl; exact tf) | ((with_reducible apply zCD); exact rfl) | ((with_reducible apply zCN); exact rfl) | ((with_reducible apply zC); exact rfl) | ((with_reducible refine zX ?_ ?_); exact rfl) | ((with_reducible refine zE (And.intro ?_ ?_)); exact kr) | (with_reducible refine zE ?_) | ((with_reducible apply zP); (first | exact o_indexI (xs := ps) (f := T8) rfl rfl hlt rfl | exact o_loadR1 rfl hget | exact dp | exact oc rfl (hnb))) | ((with_reducible apply zN); exact dn) | ((with_reducible apply zA); exact da) | ((with_reducible apply zS); exact ds) | ((with_reducible apply zY); exact rfl; exact rfl; exact tf) | ((with_reducible apply zG); exact rfl; exact rfl; exact tf) | ((with_reducible apply zU); exact rfl; exact rfl) | ((with_reducible apply zD); exact rfl; exact rfl) | ((with_reducible apply zB); exact rfl; exact rfl))))
          ((refine awp_region_anyL mixed (l1 := [_, _, _, _, _, _, _, _, _, _, _, _, _, _, _]) rfl ?_ ?_); exact kr; (repeat' (first | (with_reducible first | intro hg | refine mv (by constructor) ?_) | ((with_reducible first | refine zR ?_ ?_ | refine zW mixed ?_ ?_); exact kr) | ((with_reducible apply zK); exact rfl; exact tf) | ((with_reducible apply zCD); exact rfl) | ((with_reducible apply zCN); exact rfl) | ((with_reducible apply zC); exact rfl) | ((with_reducible refine zX ?_ ?_); exact rfl) | ((with_reducible refine zE (And.intro ?_ ?_)); exact kr) | (with_reducible refine zE ?_) | ((with_reducible apply zP); (first | exact o_indexI (j := 0) (xs := l) rfl rfl (by omega) rfl | exact o_indexI (j := 1) (xs := l) rfl rfl (by omega) rfl | exact o_loadLk (L := PN) (sz := 3) rfl rfl rfl rfl (by rfl) (by exact hb1) (by exact hb2) | exact dp)) | ((with_reducible apply zN); exact dn) | ((with_reducible apply zA); (first | ((apply o_app); (case hx => exact rfl); (case hm => exact rfl); (case hy => exact .own rfl rfl); (case hty => exact rfl); (case hl => solve | exact hln | rfl); (case hcl => solve | rfl | exact hln | simp); (case hpos => omega); (case hb => omega); (case hb2 => omega); (case hnew => exact rfl)) | ((apply o_app); (case hx => exact rfl); (case hm => exact rfl); (case hy => exact .sl rfl); (case hty => exact rfl); (case hl => solve | exact hln | rfl); (case hcl => solve | rfl | exact hln | simp); (case hpos => omega); (case hb => omega); (case hb2 => omega); (case hnew => exact rfl)) | exact da)) | ((with_reducible apply zS); exact ds) | ((with_reducible apply zY); exact rfl; exact rfl; exact tf) | ((with_reducible apply zG); exact rfl; exact rfl; exact tf) | ((with_reducible apply zU); exact rfl; exact rfl) | ((with_reducible apply zD); exact rfl; exact rfl) | ((with_reducible apply zB); exact rfl; exact rfl))))
          refine wpl_turn (turns_pin 57 57 PN (by rfl) (by rfl) (by rfl) (by rfl) (by kernel_rfl)) fun y => ?_
          ((refine wpl_run (l1 := [_]) rfl ?_ ?_); exact kr; (repeat' (first | (with_reducible first | intro hg | refine mv (by constructor) ?_) | ((with_reducible first | refine zR ?_ ?_ | refine zW mixed ?_ ?_); exact kr) | ((with_reducible apply zK); exact rfl; exact tf) | ((with_reducible apply zCD); exact rfl) | ((with_reducible apply zCN); exact rfl) | ((with_reducible apply zC); exact rfl) | ((with_reducible refine zX ?_ ?_); exact rfl) | ((with_reducible refine zE (And.intro ?_ ?_)); exact kr) | (with_reducible refine zE ?_) | ((with_reducible apply zP); exact dp) | ((with_reducible apply zN); exact dn) | ((with_reducible apply zA); exact da) | ((with_reducible apply zS); exact ds) | ((with_reducible apply zY); exact rfl; exact rfl; exact tf) | ((with_reducible apply zG); exact rfl; exact rfl; exact tf) | ((with_reducible apply zU); exact rfl; exact rfl) | ((with_reducible apply zD); exact rfl; exact rfl) | ((with_reducible apply zB); exact rfl; exact rfl))))
          refine wpl_nil ?_
          (repeat' (first | (with_reducible first | intro hg | refine mv (by constructor) ?_) | ((with_reducible first | refine zR ?_ ?_ | refine zW mixed ?_ ?_); exact kr) | ((with_reducible apply zK); exact rfl; exact tf) | ((with_reducible apply zCD); exact rfl) | ((with_reducible apply zCN); exact rfl) | ((with_reducible apply zC); exact rfl) | ((with_reducible refine zX ?_ ?_); exact rfl) | ((with_reducible refine zE (And.intro ?_ ?_)); exact kr) | (with_reducible refine zE ?_) | ((with_reducible apply zP); exact dp) | ((with_reducible apply zN); exact dn) | ((with_reducible apply zA); exact da) | ((with_reducible apply zS); exact ds) | ((with_reducible apply zY); exact rfl; exact rfl; exact tf) | ((with_reducible apply zG); exact rfl; exact rfl; exact tf) | ((with_reducible apply zU); exact rfl; exact rfl) | ((with_reducible apply zD); exact rfl; exact rfl) | ((with_reducible apply zB); exact rfl; exact rfl)))
          refine ⟨(k + 1 + 1, T, x :: A ++ [⟨nth l 0, nth l 1, l.drop 2⟩], y.1.1, y.1.2), ⟨hlt, ⟨hT, hA'⟩, .inr (by rw [e9]; exact y.2)⟩, hm, ?_, ?_⟩
          · show leF _ ((2, .ptr 2 0) :: (4, .ptr 4 0) :: (16, .d (tsl ps)) :: (17, .d (I ps.length)) :: (18, .d (I ((k + 1 + 1 : Nat) : Int))) :: lkF PN y.1.1 y.1.2 3 (x :: A ++ [(⟨nth l 0, nth l 1, l.drop 2⟩ : Act3)]).length)
            rw [e9]
            exact (And.intro rfl (And.intro rfl (And.intro rfl (And.intro rfl (And.intro rfl (And.intro rfl trivial))))))
          · show leM _ ((2, ⟨25, [nilV, nilV]⟩) :: (4, ⟨25, [isl T, lkC y.1.1 y.1.2 (x :: A ++ [(⟨nth l 0, nth l 1, l.drop 2⟩ : Act3)]).length]⟩) :: lkM PN 90 (acts (x :: (A ++ [⟨nth l 0, nth l 1, l.drop 2⟩]))) (x :: A ++ [(⟨nth l 0, nth l 1, l.drop 2⟩ : Act3)]).length)
            rw [e9]
            exact (And.intro rfl (And.intro rfl (And.intro (hbl) trivial)))

end Go.Proofs.YtagpmpbmfjaiiaaGreatDoor

/- The rules of a string, by the reference; the profile of a string, by both; whether rules are the same. -/
namespace Go.Proofs.YtagpmpbmfjaiiaaGreatDoor
open Go.RowKit
set_option maxRecDepth 20000
set_option maxHeartbeats 8000000

end Go.Proofs.YtagpmpbmfjaiiaaGreatDoor

/- Whether rules are the same; what a string is parsed to, by both. -/
namespace Go.Proofs.YtagpmpbmfjaiiaaGreatDoor
open Go.RowKit
set_option maxRecDepth 20000
set_option maxHeartbeats 8000000

theorem ints_same (xs : List Int) (h : xs.length ≤ 140737488355328) : AC Tryz.prog 20 [isl xs, isl xs] (B true) := by
  have := ints_A xs xs h h
  rwa [decide_eq_true rfl] at this
theorem sameRules_A (T : List Int) (A : List Act3) (hl : LenOk T A) : AC Tryz.prog 19 [rulV T A, rulV T A] (B true) := by
  obtain ⟨hT, hA, hE⟩ := hl
  have hi := ints_same T hT
  refine ac_body Tryz.func19 rfl (by kernel_rfl) fun w0 ok => ?_; show AWp _ (ctx0 w0 ok _) _ (ARet _ _ _) (entry _)
  (repeat' (first | (with_reducible first | intro hg | refine mv (by constructor) ?_) | ((with_reducible first | refine zR ?_ ?_ | refine zW mixed ?_ ?_); exact kr) | ((with_reducible apply zK); exact rfl; exact tf) | ((with_reducible apply zCD); exact rfl) | ((with_reducible apply zCN); exact rfl) | ((with_reducible apply zC); exact rfl) | ((with_reducible refine zX ?_ ?_); exact rfl) | ((with_reducible refine zE (And.intro ?_ ?_)); exact kr) | (with_reducible refine zE ?_) | ((with_reducible apply zP); (first | exact dp | exact oc rfl (hi))) | ((with_reducible apply zN); exact dn) | ((with_reducible apply zA); exact da) | ((with_reducible apply zS); exact ds) | ((with_reducible apply zY); exact rfl; exact rfl; exact tf) | ((with_reducible apply zG); exact rfl; exact rfl; exact tf) | ((with_reducible apply zU); exact rfl; exact rfl) | ((with_reducible apply zD); exact rfl; exact rfl) | ((with_reducible apply zB); exact rfl; exact rfl)))
  clear hi
  refine awp_loopL (α := Nat) (fun k => [(2, .ptr 2 0), (3, .ptr 3 0), (5, .d (I k))]) (fun _ => [(2, ⟨25, rulC T A⟩), (3, ⟨25, rulC T A⟩)]) (fun k => k ≤ A.length) (fun k => A.length - k) 0 (Nat.zero_le _) (And.intro rfl (And.intro rfl (And.intro rfl trivial))) (And.intro rfl (And.intro rfl trivial)) fun k hk => ?_
  by_cases hlt : k < A.length
  rotate_left
  · (repeat' (first | (with_reducible first | intro hg | refine mv (by constructor) ?_) | ((with_reducible first | refine zR ?_ ?_ | refine zW mixed ?_ ?_); exact kr) | ((with_reducible apply zK); exact rfl; exact tf) | ((with_reducible apply zCD); exact rfl) | ((with_reducible apply zCN); exact rfl) | ((with_reducible apply zC); exact rfl) | ((with_reducible refine zX ?_ ?_); exact rfl) | ((with_reducible refine zE (And.intro ?_ ?_)); exact kr) | (with_reducible refine zE ?_) | ((with_reducible apply zP); exact dp) | ((with_reducible apply zN); exact dn) | ((with_reducible apply zA); exact da) | ((with_reducible apply zS); exact ds) | ((with_reducible apply zY); exact rfl; exact rfl; exact tf) | ((with_reducible apply zG); exact rfl; exact rfl; exact tf) | ((with_reducible apply zU); exact rfl; exact rfl) | ((with_reducible apply zD); exact rfl; exact rfl) | ((with_reducible apply zB); exact rfl; exact rfl)))
    ((with_reducible first | apply q_retR | apply q_retN); exact rl)
    rfl
  have he := hE _ (act_mem hlt)
  have hi := ints_same (A.getD k a0).eff he
  clear hE he
  (repeat' (first | (with_reducible first | intro hg | refine mv (by constructor) ?_) | ((with_reducible first | refine zR ?_ ?_ | refine zW mixed ?_ ?_); exact kr) | ((with_reducible apply zK); exact rfl; exact tf) | ((with_reducible apply zCD); exact rfl) | ((with_reducible apply zCN); exact rfl) | ((with_reducible apply zC); exact rfl) | ((with_reducible refine zX ?_ ?_); exact rfl) | ((with_reducible refine zE (And.intro ?_ ?_)); exact kr) | (with_reducible refine zE ?_) | ((with_reducible apply zP); (first | exact o_indexF a0 actC_len (by decide) rfl rfl (by omega) rfl | exact dp | exact oc rfl (hi))) | ((with_reducible apply zN); exact dn) | ((with_reducible apply zA); exact da) | ((with_reducible apply zS); exact ds) | ((with_reducible apply zY); exact rfl; exact rfl; exact tf) | ((with_reducible apply zG); exact rfl; exact rfl; exact tf) | ((with_reducible apply zU); exact rfl; exact rfl) | ((with_reducible apply zD); exact rfl; exact rfl) | ((with_reducible apply zB); exact rfl; exact rfl)))
  all_goals first | (exfalso; simp at hg; done) | skip
  exact ⟨k + 1, hlt, by omega, (And.intro rfl (And.intro rfl (And.intro rfl trivial))), (And.intro rfl (And.intro rfl trivial))⟩
/-- What is written is read again. -/
theorem parse_fmt (T : List Int) (A : List Act3) (h : (rulE T A).2 = 0) : AC Tryz.prog 13 [T8 (fmtR T A)] (.tuple [rulV T A, I 0]) := by
  obtain ⟨_, hok⟩ := rulE_ok h
  obtain ⟨h1, h2⟩ := hok.digits
  have hr : rulP (cutA 59 [] (fmtR T A)) = some (T, A) := by
    rw [cut_fmtR]
    show (match parL true 6 (fmtL T) with | none => none | some T => match partsA (A.map fmtA) with | none => none | some A => some (T, A)) = _
    rw [parL_fmt (by decide) (List.length_pos_iff.1 hok.t0) fun v hv => ⟨h1 v hv, .inl rfl⟩, partsA_fmt A h2]
  have hi : ∀ {v : Int}, v.natAbs < 10 ^ 6 → I64 v := fun {v} hv => by
    have hv : v.natAbs < 1000000 := hv
    exact ⟨by omega, by omega⟩
  have hlen := fmtR_len (m := 9) (n := 9) hok.t9 (fun v hv => hi (h1 v hv)) _ A rfl fun a ha => ⟨by have := (hok.b a ha).2.2.2.1; have := hok.t9; omega, fun v hv => hi (h2 a ha v hv)⟩
  have ha3 := hok.a3
  have h3 : (21 * 9 + 43) * A.length ≤ 232 * 3 := Nat.mul_le_mul_left _ ha3
  refine parseRules_A _ (by omega) _ (fun e => by rw [hr] at e; cases e) (fun T' A' e _ => ?_) (fun T' A' e h4 => ?_)
  · rw [hr] at e
    injection e with e
    injection e with e1 e2
    rw [e1, e2]
  · rw [hr] at e
    injection e with e
    injection e with e1 e2
    rw [← e1, ← e2] at h4
    exact absurd h h4
end Go.Proofs.YtagpmpbmfjaiiaaGreatDoor
