/- Merged: XSa XSc XSe. -/
import Derived.Test.YtagpmpbmfjaiiaaGreatDoorNh
import Derived.Test.YtagpmpbmfjaiiaaGreatDoorNy
import Derived.Test.YtagpmpbmfjaiiaaGreatDoorPy
set_option linter.unusedVariables false
set_option linter.unusedSimpArgs false
/- Strings of flat rolls: lists of numbers, by the reference and by the package: spelled; by the reference: read. -/
namespace Go.Proofs.YtagpmpbmfjaiiaaGreatDoor
open Go.RowKit
set_option maxRecDepth 20000
set_option maxHeartbeats 4000000

theorem fmtL_one (v : Int) : fmtL [v] = Lib.itoa v := Lib.join_one _ _
theorem joinTail_snoc (sep : List UInt8) (r : List (List UInt8)) (w : List UInt8) : Lib.joinTail sep (r ++ [w]) = Lib.joinTail sep r ++ (sep ++ w) := by
  unfold Lib.joinTail
  simp
theorem fmtL_snoc {l : List Int} (h : l ≠ []) (v : Int) : fmtL (l ++ [v]) = fmtL l ++ [32] ++ Lib.itoa v := by
  cases l with
  | nil => exact absurd rfl h
  | cons u l =>
    unfold fmtL
    rw [List.cons_append, List.map_cons, List.map_cons, List.map_append, List.map_cons, List.map_nil, Lib.join_cons, Lib.join_cons, joinTail_snoc]
    simp
theorem fmtL_len : ∀ (n : Nat) (l : List Int), l.length = n → (∀ v ∈ l, I64 v) → (fmtL l).length ≤ 21 * l.length
  | 0, l, hl, _ => by
    obtain rfl := List.length_eq_zero_iff.1 hl
    exact Nat.le_refl _
  | n + 1, l, hl, h => by
    obtain ⟨r, v, rfl⟩ : ∃ r v, l = r ++ [v] := ⟨l.dropLast, l.getLast (by rintro rfl; simp at hl), (List.dropLast_concat_getLast _).symm⟩
    have hv := itoa_len (h v (by simp))
    rw [List.length_append, List.length_singleton] at hl ⊢
    by_cases hr : r = []
    · subst hr
      rw [List.nil_append, fmtL_one]
      omega
    · rw [fmtL_snoc hr, List.length_append, List.length_append]
      have := fmtL_len n r (by omega) fun x hx => h x (by simp [hx])
      simp only [List.length_singleton]
      omega
theorem take_nth {l : List Int} {k : Nat} (h : k < l.length) : l.take (k + 1) = l.take k ++ [nth l k] := by
  unfold nth
  rw [List.take_add_one, List.getD_eq_getElem?_getD, List.getElem?_eq_getElem h]; rfl
/-- Numbers spelled, by the reference. -/
theorem knumbers_A (l : List Int) (hl : l.length ≤ 100000) (h : ∀ v ∈ l, I64 v) : AC Tryz.prog 61 [isl l] (T8 (fmtL l)) := by
  refine ac_body Tryz.func61 rfl (by kernel_rfl) fun w0 ok => ?_; show AWp _ (ctx0 w0 ok _) _ (ARet _ _ _) (entry _)
  (repeat' (first | (with_reducible first | intro hg | refine mv (by constructor) ?_) | ((with_reducible first | refine zR ?_ ?_ | refine zW mixed ?_ ?_); exact kr) | ((with_reducible apply zK); exact rfl; exact tf) | ((with_reducible apply zCD); exact rfl) | ((with_reducible apply zCN); exact rfl) | ((with_reducible apply zC); exact rfl) | ((with_reducible refine zX ?_ ?_); exact rfl) | ((with_reducible refine zE (And.intro ?_ ?_)); exact kr) | (with_reducible refine zE ?_) | ((with_reducible apply zP); exact dp) | ((with_reducible apply zN); exact dn) | ((with_reducible apply zA); exact da) | ((with_reducible apply zS); exact ds) | ((with_reducible apply zY); exact rfl; exact rfl; exact tf) | ((with_reducible apply zG); exact rfl; exact rfl; exact tf) | ((with_reducible apply zU); exact rfl; exact rfl) | ((with_reducible apply zD); exact rfl; exact rfl) | ((with_reducible apply zB); exact rfl; exact rfl)))
  refine awp_loopL (α := Nat × List UInt8) (fun x => [(0, .d (isl l)), (3, .d (T8 x.2)), (4, .d (I x.1))]) (fun _ => [])
    (fun x => x.1 ≤ l.length ∧ x.2 = fmtL (l.take x.1)) (fun x => l.length - x.1) (0, []) ⟨Nat.zero_le _, rfl⟩ (And.intro rfl (And.intro rfl (And.intro rfl trivial))) trivial fun ⟨k, s⟩ ⟨hk, hs⟩ => ?_
  have hs : s = fmtL (l.take k) := hs
  have hk : k ≤ l.length := hk
  have hsl := fmtL_len _ (l.take k) rfl fun v hv => h v (List.mem_of_mem_take hv)
  rw [← hs, List.length_take, Nat.min_eq_left hk] at hsl
  by_cases hlt : k < l.length
  · have hmem : nth l k ∈ l := by
      unfold nth
      rw [List.getD_eq_getElem?_getD, List.getElem?_eq_getElem hlt]
      exact List.getElem_mem hlt
    have hi := h _ hmem
    have hd := decimal_A (nth l k) hi
    have hil := (itoa_len hi).1
    have e := take_nth hlt
    obtain ⟨w, hw⟩ : ∃ w, w = Lib.itoa (nth l k) := ⟨_, rfl⟩
    rw [← hw] at hd hil
    by_cases h0 : k = 0
    · subst h0
      obtain rfl : s = [] := hs
      have hn : ([] : List UInt8) ++ w = fmtL (l.take (0 + 1)) := by
        rw [e, List.take_zero, List.nil_append, List.nil_append, fmtL_one, hw]
      clear h hmem hs hw e
      (repeat' (first | (with_reducible first | intro hg | refine mv (by constructor) ?_) | ((with_reducible first | refine zR ?_ ?_ | refine zW mixed ?_ ?_); exact kr) | ((with_reducible apply zK); exact rfl; exact tf) | ((with_reducible apply zCD); exact rfl) | ((with_reducible apply zCN); exact rfl) | ((with_reducible apply zC); exact rfl) | ((with_reducible refine zX ?_ ?_); exact rfl) | ((with_reducible refine zE (And.intro ?_ ?_)); exact kr) | (with_reducible refine zE ?_) | ((with_reducible apply zP); (first | exact o_addT rfl rfl (by (try simp) <;> omega) (by (try simp) <;> omega) | exact dp | exact oc rfl (hd))) | ((with_reducible apply zN); exact dn) | ((with_reducible apply zA); exact da) | ((with_reducible apply zS); exact ds) | ((with_reducible apply zY); exact rfl; exact rfl; exact tf) | ((with_reducible apply zG); exact rfl; exact rfl; exact tf) | ((with_reducible apply zU); exact rfl; exact rfl) | ((with_reducible apply zD); exact rfl; exact rfl) | ((with_reducible apply zB); exact rfl; exact rfl)))
      exact ⟨(1, [] ++ w), ⟨hlt, hn⟩, by show l.length - 1 < l.length - 0; omega, (And.intro rfl (And.intro rfl (And.intro rfl trivial))), trivial⟩
    · have hn : s ++ [32] ++ w = fmtL (l.take (k + 1)) := by
        rw [e, fmtL_snoc (fun e => by
          have := congrArg List.length e
          rw [List.length_take, Nat.min_eq_left hk] at this
          exact h0 this), hw, hs]
      clear h hmem hs hw e
      (repeat' (first | (with_reducible first | intro hg | refine mv (by constructor) ?_) | ((with_reducible first | refine zR ?_ ?_ | refine zW mixed ?_ ?_); exact kr) | ((with_reducible apply zK); exact rfl; exact tf) | ((with_reducible apply zCD); exact rfl) | ((with_reducible apply zCN); exact rfl) | ((with_reducible apply zC); exact rfl) | ((with_reducible refine zX ?_ ?_); exact rfl) | ((with_reducible refine zE (And.intro ?_ ?_)); exact kr) | (with_reducible refine zE ?_) | ((with_reducible apply zP); (first | exact o_addT rfl rfl (by (try simp) <;> omega) (by (try simp) <;> omega) | exact dp | exact oc rfl (hd))) | ((with_reducible apply zN); exact dn) | ((with_reducible apply zA); exact da) | ((with_reducible apply zS); exact ds) | ((with_reducible apply zY); exact rfl; exact rfl; exact tf) | ((with_reducible apply zG); exact rfl; exact rfl; exact tf) | ((with_reducible apply zU); exact rfl; exact rfl) | ((with_reducible apply zD); exact rfl; exact rfl) | ((with_reducible apply zB); exact rfl; exact rfl)))
      exact ⟨(k + 1, s ++ [32] ++ w), ⟨hlt, hn⟩, by show l.length - (k + 1) < l.length - k; omega, (And.intro rfl (And.intro rfl (And.intro rfl trivial))), trivial⟩
  obtain rfl : k = l.length := by omega
  rw [List.take_length] at hs
  subst hs
  clear h
  (repeat' (first | (with_reducible first | intro hg | refine mv (by constructor) ?_) | ((with_reducible first | refine zR ?_ ?_ | refine zW mixed ?_ ?_); exact kr) | ((with_reducible apply zK); exact rfl; exact tf) | ((with_reducible apply zCD); exact rfl) | ((with_reducible apply zCN); exact rfl) | ((with_reducible apply zC); exact rfl) | ((with_reducible refine zX ?_ ?_); exact rfl) | ((with_reducible refine zE (And.intro ?_ ?_)); exact kr) | (with_reducible refine zE ?_) | ((with_reducible apply zP); exact dp) | ((with_reducible apply zN); exact dn) | ((with_reducible apply zA); exact da) | ((with_reducible apply zS); exact ds) | ((with_reducible apply zY); exact rfl; exact rfl; exact tf) | ((with_reducible apply zG); exact rfl; exact rfl; exact tf) | ((with_reducible apply zU); exact rfl; exact rfl) | ((with_reducible apply zD); exact rfl; exact rfl) | ((with_reducible apply zB); exact rfl; exact rfl)))
  ((with_reducible first | apply q_retR | apply q_retN); exact rl)
  rfl

end Go.Proofs.YtagpmpbmfjaiiaaGreatDoor

/- Strings of flat rolls: numbers spelled by the package. -/
namespace Go.Proofs.YtagpmpbmfjaiiaaGreatDoor
open Go.RowKit
set_option maxRecDepth 20000
set_option maxHeartbeats 4000000

theorem joined_A (l : List Int) (hl : l.length ≤ 100000) (h : ∀ v ∈ l, I64 v) : AC Tryz.prog 51 [isl l] (T8 (fmtL l)) := by
  have hfl := fmtL_len _ l rfl h
  have hj : AC Tryz.prog 93 [tsl (l.map Lib.itoa), T8 [32]] (T8 (fmtL l)) := join_A (l.map Lib.itoa) [32] (by rw [List.length_map]; omega) (show (fmtL l).length ≤ _ by omega)
  refine ac_body Tryz.func51 rfl (by kernel_rfl) fun w0 ok => ?_; show AWp _ (ctx0 w0 ok _) _ (ARet _ _ _) (entry _)
  (repeat' (first | (with_reducible first | intro hg | refine mv (by constructor) ?_) | ((with_reducible first | refine zR ?_ ?_ | refine zW mixed ?_ ?_); exact kr) | ((with_reducible apply zK); exact rfl; exact tf) | ((with_reducible apply zCD); exact rfl) | ((with_reducible apply zCN); exact rfl) | ((with_reducible apply zC); exact rfl) | ((with_reducible refine zX ?_ ?_); exact rfl) | ((with_reducible refine zE (And.intro ?_ ?_)); exact kr) | (with_reducible refine zE ?_) | ((with_reducible apply zP); exact dp) | ((with_reducible apply zN); exact dn) | ((with_reducible apply zA); exact da) | ((with_reducible apply zS); exact ds) | ((with_reducible apply zY); exact rfl; exact rfl; exact tf) | ((with_reducible apply zG); exact rfl; exact rfl; exact tf) | ((with_reducible apply zU); exact rfl; exact rfl) | ((with_reducible apply zD); exact rfl; exact rfl) | ((with_reducible apply zB); exact rfl; exact rfl)))
  refine awp_loopL (α := List (List UInt8)) (fun ps => [(3, ownZ 16 1 ps.length), (6, .d (isl l)), (7, .d (I l.length)), (8, .d (I ps.length))]) (fun ps => ownM 16 9 (ps.map T8) ps.length)
    (fun ps => ps.length ≤ l.length ∧ ps = (l.take ps.length).map Lib.itoa) (fun ps => l.length - ps.length) [] ⟨Nat.zero_le _, rfl⟩ (And.intro rfl (And.intro rfl (And.intro rfl (And.intro rfl trivial)))) trivial fun ps ⟨hk, hs⟩ => ?_
  by_cases hlt : ps.length < l.length
  rotate_left
  · have he : ps.length = l.length := by omega
    rw [he, List.take_length] at hs
    subst hs
    clear h hfl
    refine awp_ownZ 3 16 1 (t := 9) ((l.map Lib.itoa).map T8) (by simp) rfl (fun k hk => by rw [hk]; rfl) ?_
    (repeat' (first | (with_reducible first | intro hg | refine mv (by constructor) ?_) | ((with_reducible first | refine zR ?_ ?_ | refine zW mixed ?_ ?_); exact kr) | ((with_reducible apply zK); exact rfl; exact tf) | ((with_reducible apply zCD); exact rfl) | ((with_reducible apply zCN); exact rfl) | ((with_reducible apply zC); exact rfl) | ((with_reducible refine zX ?_ ?_); exact rfl) | ((with_reducible refine zE (And.intro ?_ ?_)); exact kr) | (with_reducible refine zE ?_) | ((with_reducible apply zP); (first | exact dp | exact oc rfl (hj))) | ((with_reducible apply zN); exact dn) | ((with_reducible apply zA); exact da) | ((with_reducible apply zS); exact ds) | ((with_reducible apply zY); exact rfl; exact rfl; exact tf) | ((with_reducible apply zG); exact rfl; exact rfl; exact tf) | ((with_reducible apply zU); exact rfl; exact rfl) | ((with_reducible apply zD); exact rfl; exact rfl) | ((with_reducible apply zB); exact rfl; exact rfl)))
    ((with_reducible first | apply q_retR | apply q_retN); exact rl)
    rfl
  have hmem : nth l ps.length ∈ l := by
    unfold nth
    rw [List.getD_eq_getElem?_getD, List.getElem?_eq_getElem hlt]
    exact List.getElem_mem hlt
  have hd := itoa_A (nth l ps.length) (h _ hmem)
  have hn : ps ++ [Lib.itoa (nth l ps.length)] = (l.take (ps.length + 1)).map Lib.itoa := by
    rw [take_nth hlt, List.map_append, ← hs]; rfl
  obtain ⟨w, hw⟩ : ∃ w, Lib.itoa (nth l ps.length) = w := ⟨_, rfl⟩
  rw [hw] at hd hn
  clear h hmem hs hj hfl hw
  have hsn : ps.map T8 ++ [T8 w] = (ps ++ [w]).map T8 := by simp
  rcases ps with _ | ⟨p, ps⟩
  · (repeat' (first | (with_reducible first | intro hg | refine mv (by constructor) ?_) | ((with_reducible first | refine zR ?_ ?_ | refine zW mixed ?_ ?_); exact kr) | ((with_reducible apply zK); exact rfl; exact tf) | ((with_reducible apply zCD); exact rfl) | ((with_reducible apply zCN); exact rfl) | ((with_reducible apply zC); exact rfl) | ((with_reducible refine zX ?_ ?_); exact rfl) | ((with_reducible refine zE (And.intro ?_ ?_)); exact kr) | (with_reducible refine zE ?_) | ((with_reducible apply zP); (first | exact dp | exact oc rfl (hd))) | ((with_reducible apply zN); exact dn) | ((with_reducible apply zA); exact da) | ((with_reducible apply zS); exact ds) | ((with_reducible apply zY); exact rfl; exact rfl; exact tf) | ((with_reducible apply zG); exact rfl; exact rfl; exact tf) | ((with_reducible apply zU); exact rfl; exact rfl) | ((with_reducible apply zD); exact rfl; exact rfl) | ((with_reducible apply zB); exact rfl; exact rfl)))
    exact ⟨[w], ⟨hlt, hn⟩, by show l.length - 1 < l.length - 0; simp at hlt; omega, (And.intro rfl (And.intro rfl (And.intro rfl (And.intro rfl trivial)))), ⟨rfl, trivial⟩⟩
  · have hxl : ((p :: ps).map T8).length = (ps.length + 1) * 1 := by simp
    have hln : AV.d (I (((p :: ps).length : Int) + 1)) = AV.d (I ((p :: ps ++ [w]).length : Nat)) := congrArg (fun z => AV.d (I z)) (by simp)
    have hk2 : ps.length + 1 ≤ l.length := by simpa using hk
    (repeat' (first | (with_reducible first | intro hg | refine mv (by constructor) ?_) | ((with_reducible first | refine zR ?_ ?_ | refine zW mixed ?_ ?_); exact kr) | ((with_reducible apply zK); exact rfl; exact tf) | ((with_reducible apply zCD); exact rfl) | ((with_reducible apply zCN); exact rfl) | ((with_reducible apply zC); exact rfl) | ((with_reducible refine zX ?_ ?_); exact rfl) | ((with_reducible refine zE (And.intro ?_ ?_)); exact kr) | (with_reducible refine zE ?_) | ((with_reducible apply zP); (first | exact dp | exact oc rfl (hd))) | ((with_reducible apply zN); exact dn) | ((with_reducible apply zA); (first | ((apply o_app); (case hx => exact rfl); (case hm => exact rfl); (case hy => exact .own rfl rfl); (case hty => exact rfl); (case hl => solve | exact hxl | rfl); (case hcl => solve | rfl | exact hxl | simp); (case hpos => omega); (case hb => omega); (case hb2 => omega); (case hnew => exact rfl)) | ((apply o_app); (case hx => exact rfl); (case hm => exact rfl); (case hy => exact .sl rfl); (case hty => exact rfl); (case hl => solve | exact hxl | rfl); (case hcl => solve | rfl | exact hxl | simp); (case hpos => omega); (case hb => omega); (case hb2 => omega); (case hnew => exact rfl)) | exact da)) | ((with_reducible apply zS); exact ds) | ((with_reducible apply zY); exact rfl; exact rfl; exact tf) | ((with_reducible apply zG); exact rfl; exact rfl; exact tf) | ((with_reducible apply zU); exact rfl; exact rfl) | ((with_reducible apply zD); exact rfl; exact rfl) | ((with_reducible apply zB); exact rfl; exact rfl)))
    exact ⟨p :: ps ++ [w], ⟨by simp at hlt ⊢; omega, by simpa using hn⟩, by simp at hlt ⊢; omega, (And.intro (by rw [List.length_append]; rfl) (And.intro (rfl) (And.intro (rfl) (And.intro (hln) trivial)))), leM_ownB fun _ _ => congrArg (fun l => some (Blk.mk _ l)) hsn⟩

end Go.Proofs.YtagpmpbmfjaiiaaGreatDoor

/- Strings of rules: spelled, and read again. Nothing of the program. -/
namespace Go.Proofs.YtagpmpbmfjaiiaaGreatDoor
open Go.RowKit
set_option maxRecDepth 20000

abbrev actL (a : Act3) : List Int := a.lo :: a.hi :: a.eff
abbrev fmtA (a : Act3) : List UInt8 := fmtL (actL a)
/-- The string of rules. -/
def fmtR (T : List Int) (A : List Act3) : List UInt8 := Lib.join (fmtL T :: A.map fmtA) [59]
theorem fmtR_none (T : List Int) : fmtR T [] = fmtL T := Lib.join_one _ _
theorem fmtR_snoc (T : List Int) (A : List Act3) (a : Act3) : fmtR T (A ++ [a]) = fmtR T A ++ ([59] ++ fmtA a) := by
  unfold fmtR
  rw [List.map_append, List.map_cons, List.map_nil, Lib.join_cons, Lib.join_cons, joinTail_snoc, List.append_assoc]
theorem fmtR_len {T : List Int} {m n : Nat} (hT : T.length ≤ m) (hTi : ∀ v ∈ T, I64 v) : ∀ (k : Nat) (A : List Act3), A.length = k → (∀ a ∈ A, a.eff.length ≤ n ∧ ∀ v ∈ actL a, I64 v) → (fmtR T A).length ≤ 21 * m + (21 * n + 43) * A.length
  | 0, A, hk, _ => by
    obtain rfl := List.length_eq_zero_iff.1 hk
    rw [fmtR_none]
    have := fmtL_len _ T rfl hTi
    show _ ≤ 21 * m + _ * 0
    omega
  | k + 1, A, hk, h => by
    obtain ⟨B, a, rfl⟩ : ∃ B a, A = B ++ [a] := ⟨A.dropLast, A.getLast (by rintro rfl; simp at hk), (List.dropLast_concat_getLast _).symm⟩
    obtain ⟨h1, h2⟩ := h a (by simp)
    have h3 := fmtR_len hT hTi k B (by simpa using hk) fun x hx => h x (by simp [hx])
    have h4 : (fmtA a).length ≤ 21 * (actL a).length := fmtL_len _ (actL a) rfl h2
    rw [fmtR_snoc, List.length_append, List.length_append, List.length_append, List.length_singleton, List.length_singleton, Nat.mul_add]
    simp only [List.length_cons] at h4
    omega
def actOf : List Int → Option Act3
  | lo :: hi :: e => some ⟨lo, hi, e⟩
  | _ => none
/-- The actuator of a piece. -/
def partA (w : List UInt8) : Option Act3 := (parL true 6 w).bind actOf
def partsA : List (List UInt8) → Option (List Act3)
  | [] => some []
  | w :: r => match partA w with
    | none => none
    | some a => match partsA r with
      | none => none
      | some l => some (a :: l)
theorem partsA_snoc (w : List UInt8) : ∀ (r : List (List UInt8)) (l : List Act3), partsA r = some l → partsA (r ++ [w]) = (partA w).map fun v => l ++ [v]
  | [], l, h => by
    injection h with h
    subst h
    show (match partA w with | none => none | some v => match partsA [] with | none => none | some l => some (v :: l)) = _
    cases partA w <;> rfl
  | p :: r, l, h => by
    have e (r : List (List UInt8)) : partsA (p :: r) = match partA p with | none => none | some v => match partsA r with | none => none | some l => some (v :: l) := rfl
    rw [e] at h
    rw [List.cons_append, e]
    cases hp : partA p with
    | none => rw [hp] at h; cases h
    | some v =>
      rw [hp] at h
      cases hr : partsA r with
      | none => rw [hr] at h; cases h
      | some k =>
        rw [hr] at h
        injection h with h
        subst h
        rw [partsA_snoc w r k hr]
        cases partA w <;> rfl
theorem partsA_none : ∀ (r : List (List UInt8)) (w : List UInt8), w ∈ r → partA w = none → partsA r = none
  | p :: r, w, h, hw => by
    have e : partsA (p :: r) = match partA p with | none => none | some v => match partsA r with | none => none | some l => some (v :: l) := rfl
    rw [e]
    rcases List.mem_cons.1 h with rfl | h
    · rw [hw]
    · rw [partsA_none r w h hw]
      cases partA p <;> rfl
theorem partsA_fmt : ∀ (A : List Act3), (∀ a ∈ A, ∀ v ∈ actL a, v.natAbs < 10 ^ 6) → partsA (A.map fmtA) = some A
  | [], _ => rfl
  | a :: A, h => by
    have e : partsA (fmtA a :: A.map fmtA) = match partA (fmtA a) with | none => none | some v => match partsA (A.map fmtA) with | none => none | some l => some (v :: l) := rfl
    have h1 : partA (fmtA a) = some a := by
      unfold partA fmtA
      rw [parL_fmt (by decide) (by simp) fun v hv => ⟨h a List.mem_cons_self v hv, .inl rfl⟩]
      rfl
    rw [List.map_cons, e, h1, partsA_fmt A fun x hx => h x (List.mem_cons_of_mem _ hx)]
theorem cut_fmtR (T : List Int) (A : List Act3) : cutA 59 [] (fmtR T A) = fmtL T :: A.map fmtA := by
  refine cutA_join _ _ (fmtL_no (by decide) (by decide) (by decide) T) fun p hp => ?_
  obtain ⟨a, _, rfl⟩ := List.mem_map.1 hp
  exact fmtL_no (by decide) (by decide) (by decide) _
/-- The rules that pieces spell. -/
def rulP : List (List UInt8) → Option (List Int × List Act3)
  | [] => none
  | w :: r => match parL true 6 w with
    | none => none
    | some T => match partsA r with
      | none => none
      | some A => some (T, A)
/-- The rules of a string, and the error. -/
def prR (s : List UInt8) : (List Int × List Act3) × Int := match rulP (cutA 59 [] s) with
  | none => (([], []), 7)
  | some r => bif (rulE r.1 r.2).2 == 0 then (r, 0) else (([], []), (rulE r.1 r.2).2)
theorem RulOk.digits {T : List Int} {A : List Act3} (h : RulOk T A) : (∀ v ∈ T, v.natAbs < 10 ^ 6) ∧ ∀ a ∈ A, ∀ v ∈ actL a, v.natAbs < 10 ^ 6 := by
  refine ⟨fun v hv => ?_, fun a ha v hv => ?_⟩
  · have := h.tb v hv
    show v.natAbs < 1000000
    omega
  · obtain ⟨h1, h2, _, _, h3⟩ := h.b a ha
    show v.natAbs < 1000000
    rcases List.mem_cons.1 hv with rfl | hv
    · omega
    · rcases List.mem_cons.1 hv with rfl | hv
      · omega
      · have := h3 v hv
        omega
theorem prR_fmt {T : List Int} {A : List Act3} (h : (rulE T A).2 = 0) : prR (fmtR T A) = ((T, A), 0) := by
  obtain ⟨_, hok⟩ := rulE_ok h
  obtain ⟨h1, h2⟩ := hok.digits
  have e : rulP (cutA 59 [] (fmtR T A)) = some (T, A) := by
    rw [cut_fmtR]
    show (match parL true 6 (fmtL T) with | none => none | some T => match partsA (A.map fmtA) with | none => none | some A => some (T, A)) = _
    rw [parL_fmt (by decide) (List.length_pos_iff.1 hok.t0) fun v hv => ⟨h1 v hv, .inl rfl⟩, partsA_fmt A h2]
  unfold prR
  rw [e]
  show (bif (rulE T A).2 == 0 then ((T, A), (0 : Int)) else (([], []), (rulE T A).2)) = _
  rw [h]; rfl
/-- The profile of a string, and the error. -/
def prP (s : List UInt8) : List Int × Int := match parL false 6 s with
  | none => ([], 7)
  | some p => bif prE p == 0 then (p, 0) else ([], prE p)
theorem prP_fmt {p : List Int} (h : prE p = 0) : prP (fmtL p) = (p, 0) := by
  obtain ⟨h1, _, _, h4⟩ := prE_ok h
  have e : parL false 6 (fmtL p) = some p := parL_fmt (by decide) (by rintro rfl; simp at h1) fun v hv => by
    have := h4 v hv
    refine ⟨?_, .inr (by omega)⟩
    show v.natAbs < 1000000
    omega
  unfold prP
  rw [e]
  show (bif prE p == 0 then (p, (0 : Int)) else ([], prE p)) = _
  rw [h]; rfl
theorem parL_len {sg : Bool} {s : List UInt8} {l : List Int} (h : parL sg 6 s = some l) : l.length ≤ s.length + 1 := by
  have h1 := numsL_len sg 6 _ _ h
  have h2 := cutA_len 32 s []
  omega
theorem parL_i64 {sg : Bool} : ∀ (r : List (List UInt8)) (l : List Int), numsL sg 6 r = some l → ∀ v ∈ l, I64 v
  | [], l, h => by injection h with h; subst h; intro v hv; cases hv
  | p :: r, l, h => by
    have e : numsL sg 6 (p :: r) = match numsL sg 6 r, numS sg 6 p with | some l, some v => some (v :: l) | _, _ => none := by
      show (match numS sg 6 p with | none => none | some v => match numsL sg 6 r with | none => none | some l => some (v :: l)) = _
      cases numS sg 6 p <;> cases numsL sg 6 r <;> rfl
    rw [e] at h
    cases hr : numsL sg 6 r with
    | none => rw [hr] at h; cases h
    | some k =>
      rw [hr] at h
      cases hp : numS sg 6 p with
      | none => rw [hp] at h; cases h
      | some u =>
        rw [hp] at h
        injection h with h
        subst h
        intro v hv
        rcases List.mem_cons.1 hv with rfl | hv
        · unfold numS at hp
          split at hp
          · cases hp
          · exact (numN_itoa (by decide) hp).1
        · exact parL_i64 r k hr v hv

end Go.Proofs.YtagpmpbmfjaiiaaGreatDoor
