/- Strings of loops: strings.Cut; numbers; what the package appends. -/
import Derived.Test.YtfcfmpdpjmbcnaaGreatDoorNm
import Derived.Test.YtfcfmpdpjmbcnaaGreatDoorNi
import Derived.Test.YtfcfmpdpjmbcnaaGreatDoorNu
import Derived.Test.YtfcfmpdpjmbcnaaGreatDoorSg
set_option linter.unusedVariables false
set_option linter.unusedSimpArgs false
namespace Go.Proofs.YtfcfmpdpjmbcnaaGreatDoor
open Go.RowKit
set_option maxRecDepth 20000
set_option maxHeartbeats 4000000

theorem cutS_A (l : List UInt8) (c : UInt8) (hl : l.length ≤ 1000000) : AC Tryz.prog 43 [T8 l, T8 [c]] (.tuple [T8 (Lib.cut l [c]).1, T8 (Lib.cut l [c]).2.1, B (Lib.cut l [c]).2.2]) := fun ok w vs hv hG => by
  have hv := repL_vals_eq (us := [.string ⟨l.toArray⟩, .string ⟨[c].toArray⟩]) hv
  subst hv
  obtain ⟨m, hm⟩ := hG.is.mxl
  have hg : Tryz.prog.globalNamed "internal/bytealg.MaxLen" = some 2 := by kernel_rfl
  have hm0 := World.var?_cell hg hm 0
  refine (Tryz.strings_Cut ⟨l.toArray⟩ ⟨[c].toArray⟩ m w (by rw [T8_size]; omega) (by simpa using hm0)).mono fun e w' ⟨he, n, hw⟩ => ⟨_, he, ?_, ?_⟩
  · rw [T8_list, T8_list, DV.rep]
    exact ⟨[.string _, .string _, .bool _], rfl, repL_vals [.string _, .string _, .bool _]⟩
  · rw [hw]; exact below_drewN (Below.refl _ _) n
def nAt (l : List UInt8) : Int := match Lib.atoiAll l with
  | .ok v => v
  | _ => errN l
theorem nAt_ok {l : List UInt8} {v : Int} (h : Lib.atoiAll l = .ok v) : nAt l = v := by unfold nAt; rw [h]
theorem nAt_err {l : List UInt8} (h : ∀ v, Lib.atoiAll l ≠ .ok v) : nAt l = errN l := by
  unfold nAt
  split
  · rename_i v e; exact absurd e (h v)
  · rfl
theorem numS2_ok {sg : Bool} {p : List UInt8} {v : Int} (h : numS sg 2 p = some v) : Lib.itoa v = p ∧ Lib.atoiAll p = .ok v ∧ (Lib.trimPrefix p [45]).length ≤ 2 ∧ (sg = true ∨ 0 ≤ v) := by
  unfold numS at h
  split at h
  · cases h
  · rename_i hs
    obtain ⟨h1, h2, h3⟩ := numN_itoa (by decide) h
    have h4 := atoi_itoa h1
    rw [h2] at h4
    refine ⟨h2, h4, by rw [trimP]; exact h3, ?_⟩
    cases sg
    · refine .inr (Int.not_lt.1 fun hv => hs ?_)
      rw [← h2, decide_eq_true ((sign_itoa v).2 hv)]; rfl
    · exact .inl rfl
theorem numS2_of {sg : Bool} {p : List UInt8} {v : Int} (h2 : Lib.itoa v = p) (h3 : (Lib.trimPrefix p [45]).length ≤ 2) (h4 : sg = true ∨ 0 ≤ v) : numS sg 2 p = some v := by
  have hn : numN p 2 = some v := by
    subst h2
    exact numN_of (by rw [← trimP]; exact h3)
  unfold numS
  rw [if_neg, hn]
  intro h
  rw [Bool.and_eq_true, decide_eq_true_eq] at h
  rcases h4 with rfl | h4
  · exact absurd h.1 (by decide)
  · rw [← h2] at h
    have := (sign_itoa v).1 h.2
    omega
theorem numS2_not {sg : Bool} {p : List UInt8} {v : Int} (ha : Lib.atoiAll p = .ok v) (h : ¬ (Lib.itoa v = p ∧ (Lib.trimPrefix p [45]).length ≤ 2 ∧ (sg = true ∨ 0 ≤ v))) : numS sg 2 p = none := by
  cases hn : numS sg 2 p with
  | none => rfl
  | some u =>
    obtain ⟨h2, h3, h4, h5⟩ := numS2_ok hn
    rw [ha] at h3
    injection h3 with h3
    subst h3
    exact absurd ⟨h2, h4, h5⟩ h
theorem numS2_err {sg : Bool} {p : List UInt8} (h : ∀ v, Lib.atoiAll p ≠ .ok v) : numS sg 2 p = none := by
  cases hn : numS sg 2 p with
  | none => rfl
  | some v => exact absurd (numS2_ok hn).2.1 (h v)
theorem numS2_nAt {sg : Bool} {p : List UInt8} {v : Int} (h : numS sg 2 p = some v) : nAt p = v := nAt_ok (numS2_ok h).2.1
theorem numG_A (l : List UInt8) (sg : Bool) (hl : l.length ≤ 1000000) : AC Tryz.prog 44 [T8 l, B sg] (.tuple [I (nAt l), B (numS sg 2 l).isSome]) := by
  have htr := trimPrefix_A l [45]
  by_cases hex : ∃ v, Lib.atoiAll l = .ok v
  rotate_left
  · have hat := atoi_E l hl fun v h => hex ⟨v, h⟩
    rw [nAt_err fun v h => hex ⟨v, h⟩, numS2_err fun v h => hex ⟨v, h⟩]
    refine ac_body Tryz.func44 rfl (by kernel_rfl) fun w0 ok => ?_; show AWp _ (ctx0 w0 ok _) _ (ARet _ _ _) (entry _)
    (repeat' ((fail_if_success (with_reducible show AWp _ _ (.region 1 _ _) _ _)); (first | (with_reducible first | intro hg | refine mv (by constructor) ?_) | ((with_reducible first | refine zR ?_ ?_ | refine zW mixed ?_ ?_); exact kr) | ((with_reducible apply zK); exact rfl; exact tf) | ((with_reducible apply zCD); exact rfl) | ((with_reducible apply zCN); exact rfl) | ((with_reducible apply zC); exact rfl) | ((with_reducible refine zX ?_ ?_); exact rfl) | ((with_reducible refine zE (And.intro ?_ ?_)); exact kr) | (with_reducible refine zE ?_) | ((with_reducible apply zP); exact dp) | ((with_reducible apply zN); exact dn) | ((with_reducible apply zA); exact da) | ((with_reducible apply zS); exact ds) | ((with_reducible apply zY); exact rfl; exact rfl; exact tf) | ((with_reducible apply zG); exact rfl; exact rfl; exact tf) | ((with_reducible apply zU); exact rfl; exact rfl) | ((with_reducible apply zD); exact rfl; exact rfl) | ((with_reducible apply zB); exact rfl; exact rfl))))
    refine awp_regionL ?_
    ((refine wpl_run (l1 := [_]) rfl ?_ ?_); exact kr; (repeat' (first | (with_reducible first | intro hg | refine mv (by constructor) ?_) | ((with_reducible first | refine zR ?_ ?_ | refine zW mixed ?_ ?_); exact kr) | ((with_reducible apply zK); exact rfl; exact tf) | ((with_reducible apply zCD); exact rfl) | ((with_reducible apply zCN); exact rfl) | ((with_reducible apply zC); exact rfl) | ((with_reducible refine zX ?_ ?_); exact rfl) | ((with_reducible refine zE (And.intro ?_ ?_)); exact kr) | (with_reducible refine zE ?_) | ((with_reducible apply zP); exact dp) | ((with_reducible apply zN); exact dn) | ((with_reducible apply zA); exact da) | ((with_reducible apply zS); exact ds) | ((with_reducible apply zY); exact rfl; exact rfl; exact tf) | ((with_reducible apply zG); exact rfl; exact rfl; exact tf) | ((with_reducible apply zU); exact rfl; exact rfl) | ((with_reducible apply zD); exact rfl; exact rfl) | ((with_reducible apply zB); exact rfl; exact rfl))))
    refine wpl_callE rfl hat (by kernel_rfl) fun x => ?_
    ((refine wpl_run (l1 := [_, _, _, _, _]) rfl ?_ ?_); exact kr; (repeat' (first | (with_reducible first | intro hg | refine mv (by constructor) ?_) | ((with_reducible first | refine zR ?_ ?_ | refine zW mixed ?_ ?_); exact kr) | ((with_reducible apply zK); exact rfl; exact tf) | ((with_reducible apply zCD); exact rfl) | ((with_reducible apply zCN); exact rfl) | ((with_reducible apply zC); exact rfl) | ((with_reducible refine zX ?_ ?_); exact rfl) | ((with_reducible refine zE (And.intro ?_ ?_)); exact kr) | (with_reducible refine zE ?_) | ((with_reducible apply zP); exact dp) | ((with_reducible apply zN); exact dn) | ((with_reducible apply zA); exact da) | ((with_reducible apply zS); exact ds) | ((with_reducible apply zY); exact rfl; exact rfl; exact tf) | ((with_reducible apply zG); exact rfl; exact rfl; exact tf) | ((with_reducible apply zU); exact rfl; exact rfl) | ((with_reducible apply zD); exact rfl; exact rfl) | ((with_reducible apply zB); exact rfl; exact rfl))))
    refine wpl_nil ?_
    (repeat' (first | (with_reducible first | intro hg | refine mv (by constructor) ?_) | ((with_reducible first | refine zR ?_ ?_ | refine zW mixed ?_ ?_); exact kr) | ((with_reducible apply zK); exact rfl; exact tf) | ((with_reducible apply zCD); exact rfl) | ((with_reducible apply zCN); exact rfl) | ((with_reducible apply zC); exact rfl) | ((with_reducible refine zX ?_ ?_); exact rfl) | ((with_reducible refine zE (And.intro ?_ ?_)); exact kr) | (with_reducible refine zE ?_) | ((with_reducible apply zP); (first | exact o_eqlE Tryz.underlying146 rfl | exact dp)) | ((with_reducible apply zN); exact dn) | ((with_reducible apply zA); exact da) | ((with_reducible apply zS); exact ds) | ((with_reducible apply zY); exact rfl; exact rfl; exact tf) | ((with_reducible apply zG); exact rfl; exact rfl; exact tf) | ((with_reducible apply zU); exact rfl; exact rfl) | ((with_reducible apply zD); exact rfl; exact rfl) | ((with_reducible apply zB); exact rfl; exact rfl)))
    ((with_reducible first | apply q_retR | apply q_retN); exact rl)
    rfl
  obtain ⟨v, ha⟩ := hex
  have hvi := atoi_i64 ha
  have hat := atoi_A l hl v ha
  have hit := itoa_A v hvi
  rw [nAt_ok ha]
  by_cases h1 : Lib.itoa v = l
  rotate_left
  · rw [numS2_not ha fun h => h1 h.1]
    refine ac_body Tryz.func44 rfl (by kernel_rfl) fun w0 ok => ?_; show AWp _ (ctx0 w0 ok _) _ (ARet _ _ _) (entry _)
    (repeat' (first | (with_reducible first | intro hg | refine mv (by constructor) ?_) | ((with_reducible first | refine zR ?_ ?_ | refine zW mixed ?_ ?_); exact kr) | ((with_reducible apply zK); exact rfl; exact tf) | ((with_reducible apply zCD); exact rfl) | ((with_reducible apply zCN); exact rfl) | ((with_reducible apply zC); exact rfl) | ((with_reducible refine zX ?_ ?_); exact rfl) | ((with_reducible refine zE (And.intro ?_ ?_)); exact kr) | (with_reducible refine zE ?_) | ((with_reducible apply zP); (first | exact o_eqlE0 Tryz.underlying146 rfl | exact o_eqlT rfl rfl | exact dp | exact oc rfl (hat) | exact oc rfl (hit))) | ((with_reducible apply zN); exact dn) | ((with_reducible apply zA); exact da) | ((with_reducible apply zS); exact ds) | ((with_reducible apply zY); exact rfl; exact rfl; exact tf) | ((with_reducible apply zG); exact rfl; exact rfl; exact tf) | ((with_reducible apply zU); exact rfl; exact rfl) | ((with_reducible apply zD); exact rfl; exact rfl) | ((with_reducible apply zB); exact rfl; exact rfl)))
    ((with_reducible first | apply q_retR | apply q_retN); exact rl)
    rfl
  by_cases h3 : (Lib.trimPrefix l [45]).length ≤ 2
  rotate_left
  · rw [numS2_not ha fun h => h3 h.2.1]
    have h3' : ¬ ((Lib.trimPrefix l [45]).length : Int) ≤ 2 := by omega
    cases sg
    all_goals by_cases h2 : 0 ≤ v
    all_goals
      refine ac_body Tryz.func44 rfl (by kernel_rfl) fun w0 ok => ?_; show AWp _ (ctx0 w0 ok _) _ (ARet _ _ _) (entry _)
      (repeat' (first | (with_reducible first | intro hg | refine mv (by constructor) ?_) | ((with_reducible first | refine zR ?_ ?_ | refine zW mixed ?_ ?_); exact kr) | ((with_reducible apply zK); exact rfl; exact tf) | ((with_reducible apply zCD); exact rfl) | ((with_reducible apply zCN); exact rfl) | ((with_reducible apply zC); exact rfl) | ((with_reducible refine zX ?_ ?_); exact rfl) | ((with_reducible refine zE (And.intro ?_ ?_)); exact kr) | (with_reducible refine zE ?_) | ((with_reducible apply zP); (first | exact o_eqlE0 Tryz.underlying146 rfl | exact o_eqlT rfl rfl | exact o_lenT8 rfl | exact dp | exact oc rfl (hat) | exact oc rfl (hit) | exact oc rfl (htr))) | ((with_reducible apply zN); exact dn) | ((with_reducible apply zA); exact da) | ((with_reducible apply zS); exact ds) | ((with_reducible apply zY); exact rfl; exact rfl; exact tf) | ((with_reducible apply zG); exact rfl; exact rfl; exact tf) | ((with_reducible apply zU); exact rfl; exact rfl) | ((with_reducible apply zD); exact rfl; exact rfl) | ((with_reducible apply zB); exact rfl; exact rfl)))
      ((with_reducible first | apply q_retR | apply q_retN); exact rl)
      first | rfl | exact congrArg (fun b => DV.tuple [I v, B b]) (decide_eq_false h3').symm | exact congrArg (fun b => DV.tuple [I v, B b]) (decide_eq_true h3').symm
  have h3' : ((Lib.trimPrefix l [45]).length : Int) ≤ 2 := by omega
  by_cases h2 : sg = true ∨ 0 ≤ v
  · rw [numS2_of h1 h3 h2]
    cases sg
    · have h2 : 0 ≤ v := h2.resolve_left (by decide)
      refine ac_body Tryz.func44 rfl (by kernel_rfl) fun w0 ok => ?_; show AWp _ (ctx0 w0 ok _) _ (ARet _ _ _) (entry _)
      (repeat' (first | (with_reducible first | intro hg | refine mv (by constructor) ?_) | ((with_reducible first | refine zR ?_ ?_ | refine zW mixed ?_ ?_); exact kr) | ((with_reducible apply zK); exact rfl; exact tf) | ((with_reducible apply zCD); exact rfl) | ((with_reducible apply zCN); exact rfl) | ((with_reducible apply zC); exact rfl) | ((with_reducible refine zX ?_ ?_); exact rfl) | ((with_reducible refine zE (And.intro ?_ ?_)); exact kr) | (with_reducible refine zE ?_) | ((with_reducible apply zP); (first | exact o_eqlE0 Tryz.underlying146 rfl | exact o_eqlT rfl rfl | exact o_lenT8 rfl | exact dp | exact oc rfl (hat) | exact oc rfl (hit) | exact oc rfl (htr))) | ((with_reducible apply zN); exact dn) | ((with_reducible apply zA); exact da) | ((with_reducible apply zS); exact ds) | ((with_reducible apply zY); exact rfl; exact rfl; exact tf) | ((with_reducible apply zG); exact rfl; exact rfl; exact tf) | ((with_reducible apply zU); exact rfl; exact rfl) | ((with_reducible apply zD); exact rfl; exact rfl) | ((with_reducible apply zB); exact rfl; exact rfl)))
      ((with_reducible first | apply q_retR | apply q_retN); exact rl)
      first | rfl | exact congrArg (fun b => DV.tuple [I v, B b]) (decide_eq_false h3').symm | exact congrArg (fun b => DV.tuple [I v, B b]) (decide_eq_true h3').symm
    · clear h2
      by_cases h2 : 0 ≤ v
      all_goals
        refine ac_body Tryz.func44 rfl (by kernel_rfl) fun w0 ok => ?_; show AWp _ (ctx0 w0 ok _) _ (ARet _ _ _) (entry _)
        (repeat' (first | (with_reducible first | intro hg | refine mv (by constructor) ?_) | ((with_reducible first | refine zR ?_ ?_ | refine zW mixed ?_ ?_); exact kr) | ((with_reducible apply zK); exact rfl; exact tf) | ((with_reducible apply zCD); exact rfl) | ((with_reducible apply zCN); exact rfl) | ((with_reducible apply zC); exact rfl) | ((with_reducible refine zX ?_ ?_); exact rfl) | ((with_reducible refine zE (And.intro ?_ ?_)); exact kr) | (with_reducible refine zE ?_) | ((with_reducible apply zP); (first | exact o_eqlE0 Tryz.underlying146 rfl | exact o_eqlT rfl rfl | exact o_lenT8 rfl | exact dp | exact oc rfl (hat) | exact oc rfl (hit) | exact oc rfl (htr))) | ((with_reducible apply zN); exact dn) | ((with_reducible apply zA); exact da) | ((with_reducible apply zS); exact ds) | ((with_reducible apply zY); exact rfl; exact rfl; exact tf) | ((with_reducible apply zG); exact rfl; exact rfl; exact tf) | ((with_reducible apply zU); exact rfl; exact rfl) | ((with_reducible apply zD); exact rfl; exact rfl) | ((with_reducible apply zB); exact rfl; exact rfl)))
        ((with_reducible first | apply q_retR | apply q_retN); exact rl)
        first | rfl | exact congrArg (fun b => DV.tuple [I v, B b]) (decide_eq_false h3').symm | exact congrArg (fun b => DV.tuple [I v, B b]) (decide_eq_true h3').symm
  · rw [numS2_not ha fun h => h2 h.2.2]
    cases sg
    · have h2 : ¬ 0 ≤ v := fun h => h2 (.inr h)
      refine ac_body Tryz.func44 rfl (by kernel_rfl) fun w0 ok => ?_; show AWp _ (ctx0 w0 ok _) _ (ARet _ _ _) (entry _)
      (repeat' (first | (with_reducible first | intro hg | refine mv (by constructor) ?_) | ((with_reducible first | refine zR ?_ ?_ | refine zW mixed ?_ ?_); exact kr) | ((with_reducible apply zK); exact rfl; exact tf) | ((with_reducible apply zCD); exact rfl) | ((with_reducible apply zCN); exact rfl) | ((with_reducible apply zC); exact rfl) | ((with_reducible refine zX ?_ ?_); exact rfl) | ((with_reducible refine zE (And.intro ?_ ?_)); exact kr) | (with_reducible refine zE ?_) | ((with_reducible apply zP); (first | exact o_eqlE0 Tryz.underlying146 rfl | exact o_eqlT rfl rfl | exact o_lenT8 rfl | exact dp | exact oc rfl (hat) | exact oc rfl (hit) | exact oc rfl (htr))) | ((with_reducible apply zN); exact dn) | ((with_reducible apply zA); exact da) | ((with_reducible apply zS); exact ds) | ((with_reducible apply zY); exact rfl; exact rfl; exact tf) | ((with_reducible apply zG); exact rfl; exact rfl; exact tf) | ((with_reducible apply zU); exact rfl; exact rfl) | ((with_reducible apply zD); exact rfl; exact rfl) | ((with_reducible apply zB); exact rfl; exact rfl)))
      ((with_reducible first | apply q_retR | apply q_retN); exact rl)
      first | rfl | exact congrArg (fun b => DV.tuple [I v, B b]) (decide_eq_false h3').symm | exact congrArg (fun b => DV.tuple [I v, B b]) (decide_eq_true h3').symm
    · exact absurd (.inl rfl) h2
def gP (w : List UInt8) : Int × Int := (nAt (Lib.cut w [32]).1, nAt (Lib.cut w [32]).2.1)
theorem pairs_all : ∀ (r : List (List UInt8)), pairsS r = if r.all goodW = true then some (r.map gP) else none
  | [] => rfl
  | w :: r => by
    rw [pairsS_cons, pairs_all r, List.all_cons]
    rcases pair_cut w with ⟨h1, h2⟩ | ⟨x, y, h1, h2, h3, h4⟩
    · rw [h1, h2]; rfl
    · rw [h1, h2, Bool.true_and]
      have e : gP w = (x, y) := by unfold gP; rw [numS2_nAt h3, numS2_nAt h4]
      cases r.all goodW
      · rfl
      · show some ((x, y) :: r.map gP) = some (gP w :: r.map gP)
        rw [e]
theorem allG_take {ps : List (List UInt8)} {k : Nat} {p : List UInt8} (h : ps[k]? = some p) : (ps.take (k + 1)).all goodW = ((ps.take k).all goodW && goodW p) ∧ (ps.take (k + 1)).map gP = (ps.take k).map gP ++ [gP p] := by
  rw [List.take_add_one, h, List.all_append, List.map_append]
  exact ⟨by simp, rfl⟩
def lpF (s : List UInt8) : Bool := ((Lib.cut s [59]).2.2 && (numS false 2 (Lib.cut s [59]).1).isSome) && (cutA 44 [] (Lib.cut s [59]).2.1).all goodW
theorem loop_way (s : List UInt8) : loopP (cutA 59 [] s) = if lpF s = true then some (nAt (Lib.cut s [59]).1, (cutA 44 [] (Lib.cut s [59]).2.1).map gP) else none := by
  unfold lpF
  rcases loop_cut s with ⟨h1, h2⟩ | ⟨d, r, h1, _, h2⟩
  · rw [h1, h2]; rfl
  · rw [h1, h2, pairs_all]
    show _ = if ((true && (numS false 2 d).isSome) && (cutA 44 [] r).all goodW) = true then some (nAt d, (cutA 44 [] r).map gP) else none
    cases hd : numS false 2 d with
    | none => cases (cutA 44 [] r).all goodW <;> rfl
    | some x =>
      rw [numS2_nAt hd]
      cases (cutA 44 [] r).all goodW <;> rfl

end Go.Proofs.YtfcfmpdpjmbcnaaGreatDoor
/- The string of a loop, by the package and by the reference. -/
set_option linter.unusedVariables false
set_option linter.unusedSimpArgs false
namespace Go.Proofs.YtfcfmpdpjmbcnaaGreatDoor
open Go.RowKit
set_option maxRecDepth 20000
set_option maxHeartbeats 4000000

theorem fmtE_one (r : Int × Int) : fmtE [r] = endS r := Lib.join_one _ _
theorem fmtE_snoc {c : List (Int × Int)} (h : c ≠ []) (r : Int × Int) : fmtE (c ++ [r]) = fmtE c ++ [44] ++ endS r := by
  cases c with
  | nil => exact absurd rfl h
  | cons u c =>
    unfold fmtE
    rw [List.cons_append, List.map_cons, List.map_cons, List.map_append, List.map_cons, List.map_nil, Lib.join_cons, Lib.join_cons]
    unfold Lib.joinTail
    simp
theorem endS_len {r : Int × Int} (h1 : I64 r.1) (h2 : I64 r.2) : (endS r).length ≤ 41 := by
  have a := (itoa_len h1).1
  have b := (itoa_len h2).1
  unfold endS
  simp only [List.length_append, List.length_singleton]
  omega
theorem fmtE_len : ∀ (n : Nat) (c : List (Int × Int)), c.length = n → (∀ r ∈ c, I64 r.1 ∧ I64 r.2) → (fmtE c).length ≤ 42 * c.length
  | 0, c, hl, _ => by
    obtain rfl := List.length_eq_zero_iff.1 hl
    exact Nat.le_refl _
  | n + 1, c, hl, h => by
    obtain ⟨r, v, rfl⟩ : ∃ r v, c = r ++ [v] := ⟨c.dropLast, c.getLast (by rintro rfl; simp at hl), (List.dropLast_concat_getLast _).symm⟩
    obtain ⟨g1, g2⟩ := h v (by simp)
    have hv := endS_len g1 g2
    rw [List.length_append, List.length_singleton] at hl ⊢
    by_cases hr : r = []
    · subst hr
      rw [List.nil_append, fmtE_one]
      omega
    · rw [fmtE_snoc hr, List.length_append, List.length_append]
      have := fmtE_len n r (by omega) fun x hx => h x (by simp [hx])
      simp only [List.length_singleton]
      omega
theorem take_rg {c : List Rg} {k : Nat} (h : k < c.length) : c.take (k + 1) = c.take k ++ [c.getD k rg0] := by
  rw [List.take_add_one, List.getD_eq_getElem?_getD, List.getElem?_eq_getElem h]; rfl
theorem fmtG_len {c : List Rg} {den : Int} (hc : c.length ≤ 1000) (hci : ∀ r ∈ c, I64 r.1 ∧ I64 r.2) (hd : I64 den) : (fmtG c den).length ≤ 50000 := by
  have h1 := fmtE_len _ c rfl hci
  have h2 := (itoa_len hd).1
  unfold fmtG
  simp only [List.length_append, List.length_singleton]
  omega
theorem formatLoop_A (c : List Rg) (den : Int) (hc : c.length ≤ 1000) (hci : ∀ r ∈ c, I64 r.1 ∧ I64 r.2) (hd : I64 den) : AC Tryz.prog 7 [loV c den] (T8 (fmtG c den)) := by
  have hlen := fmtE_len _ c rfl hci
  have hj : AC Tryz.prog 41 [tsl (c.map endS), T8 [44]] (T8 (fmtE c)) := join_A (c.map endS) [44] (by rw [List.length_map]; omega) (show (fmtE c).length ≤ _ by omega)
  have hid := itoa_A den hd
  have hdl := (itoa_len hd).1
  refine ac_body Tryz.func7 rfl (by kernel_rfl) fun w0 ok => ?_; show AWp _ (ctx0 w0 ok _) _ (ARet _ _ _) (entry _)
  (repeat' (first | (with_reducible first | intro hg | refine mv (by constructor) ?_) | ((with_reducible first | refine zR ?_ ?_ | refine zW mixed ?_ ?_); exact kr) | ((with_reducible apply zK); exact rfl; exact tf) | ((with_reducible apply zCD); exact rfl) | ((with_reducible apply zCN); exact rfl) | ((with_reducible apply zC); exact rfl) | ((with_reducible refine zX ?_ ?_); exact rfl) | ((with_reducible refine zE (And.intro ?_ ?_)); exact kr) | (with_reducible refine zE ?_) | ((with_reducible apply zP); exact dp) | ((with_reducible apply zN); exact dn) | ((with_reducible apply zA); exact da) | ((with_reducible apply zS); exact ds) | ((with_reducible apply zY); exact rfl; exact rfl; exact tf) | ((with_reducible apply zG); exact rfl; exact rfl; exact tf) | ((with_reducible apply zU); exact rfl; exact rfl) | ((with_reducible apply zD); exact rfl; exact rfl) | ((with_reducible apply zB); exact rfl; exact rfl)))
  refine awp_loopL (α := Nat) (fun k => [(1, .ptr 1 0), (3, ownZ 23 1 k), (7, .d (rgV c)), (8, .d (I c.length)), (9, .d (I k))]) (fun k => (1, ⟨24, [rgV c, I den]⟩) :: ownM 23 9 (((c.take k).map endS).map T8) k) (fun k => k ≤ c.length) (fun k => c.length - k) 0 (Nat.zero_le _) (And.intro rfl (And.intro rfl (And.intro rfl (And.intro rfl (And.intro rfl trivial))))) (And.intro rfl trivial) fun k hk => ?_
  by_cases hlt : k < c.length
  rotate_left
  · obtain rfl : k = c.length := by omega
    rw [List.take_length]
    refine awp_ownZ 3 23 1 (t := 9) ((c.map endS).map T8) (by simp) rfl (fun k hk => by rw [hk]; rfl) ?_
    have hj : AC Tryz.prog 41 [.slice c.length ((c.map endS).map T8), T8 [44]] (T8 (fmtE c)) := by
      have e : (c.map endS).length = c.length := List.length_map ..
      unfold tsl at hj
      rwa [e] at hj
    have hg : fmtG c den = Lib.itoa den ++ [59] ++ fmtE c := rfl
    rw [hg]
    clear hci hg
    generalize fmtE c = f at *
    generalize Lib.itoa den = d at *
    (repeat' (first | (with_reducible first | intro hg | refine mv (by constructor) ?_) | ((with_reducible first | refine zR ?_ ?_ | refine zW mixed ?_ ?_); exact kr) | ((with_reducible apply zK); exact rfl; exact tf) | ((with_reducible apply zCD); exact rfl) | ((with_reducible apply zCN); exact rfl) | ((with_reducible apply zC); exact rfl) | ((with_reducible refine zX ?_ ?_); exact rfl) | ((with_reducible refine zE (And.intro ?_ ?_)); exact kr) | (with_reducible refine zE ?_) | ((with_reducible apply zP); (first | exact o_addT rfl rfl (by (try simp) <;> omega) (by (try simp) <;> omega) | exact dp | exact oc rfl (hj) | exact oc rfl (hid))) | ((with_reducible apply zN); exact dn) | ((with_reducible apply zA); exact da) | ((with_reducible apply zS); exact ds) | ((with_reducible apply zY); exact rfl; exact rfl; exact tf) | ((with_reducible apply zG); exact rfl; exact rfl; exact tf) | ((with_reducible apply zU); exact rfl; exact rfl) | ((with_reducible apply zD); exact rfl; exact rfl) | ((with_reducible apply zB); exact rfl; exact rfl)))
    ((with_reducible first | apply q_retR | apply q_retN); exact rl)
    rfl
  have hm : c.getD k rg0 ∈ c := by
    rw [List.getD_eq_getElem?_getD, List.getElem?_eq_getElem hlt]
    exact List.getElem_mem hlt
  obtain ⟨i1, i2⟩ := hci _ hm
  have h1 := itoa_A _ i1
  have h2 := itoa_A _ i2
  have l1 := (itoa_len i1).1
  have l2 := (itoa_len i2).1
  have htk := take_rg hlt
  have hcl : some (Blk.mk 9 (((c.take k).map endS).map T8 ++ [T8 (Lib.itoa (c.getD k rg0).1 ++ [32] ++ Lib.itoa (c.getD k rg0).2)])) = some ⟨9, ((c.take (k + 1)).map endS).map T8⟩ := by
    rw [htk, List.map_append, List.map_append]; rfl
  have hxl : (((c.take k).map endS).map T8).length = k * 1 := by simp; omega
  clear hci hm hj hid htk hlen hdl i1 i2
  generalize Lib.itoa (c.getD k rg0).1 = a at *
  generalize Lib.itoa (c.getD k rg0).2 = b at *
  rcases k with _ | k
  · (repeat' (first | (with_reducible first | intro hg | refine mv (by constructor) ?_) | ((with_reducible first | refine zR ?_ ?_ | refine zW mixed ?_ ?_); exact kr) | ((with_reducible apply zK); exact rfl; exact tf) | ((with_reducible apply zCD); exact rfl) | ((with_reducible apply zCN); exact rfl) | ((with_reducible apply zC); exact rfl) | ((with_reducible refine zX ?_ ?_); exact rfl) | ((with_reducible refine zE (And.intro ?_ ?_)); exact kr) | (with_reducible refine zE ?_) | ((with_reducible apply zP); (first | exact o_indexF rg0 frC_len (by decide) rfl rfl (by omega) rfl | exact o_addT rfl rfl (by (try simp) <;> omega) (by (try simp) <;> omega) | exact dp | exact oc rfl (h1) | exact oc rfl (h2))) | ((with_reducible apply zN); exact dn) | ((with_reducible apply zA); exact da) | ((with_reducible apply zS); exact ds) | ((with_reducible apply zY); exact rfl; exact rfl; exact tf) | ((with_reducible apply zG); exact rfl; exact rfl; exact tf) | ((with_reducible apply zU); exact rfl; exact rfl) | ((with_reducible apply zD); exact rfl; exact rfl) | ((with_reducible apply zB); exact rfl; exact rfl)))
    exact ⟨0 + 1, hlt, by omega, (And.intro rfl (And.intro rfl (And.intro rfl (And.intro rfl (And.intro rfl trivial))))), (And.intro rfl (And.intro (hcl) trivial))⟩
  · (repeat' (first | (with_reducible first | intro hg | refine mv (by constructor) ?_) | ((with_reducible first | refine zR ?_ ?_ | refine zW mixed ?_ ?_); exact kr) | ((with_reducible apply zK); exact rfl; exact tf) | ((with_reducible apply zCD); exact rfl) | ((with_reducible apply zCN); exact rfl) | ((with_reducible apply zC); exact rfl) | ((with_reducible refine zX ?_ ?_); exact rfl) | ((with_reducible refine zE (And.intro ?_ ?_)); exact kr) | (with_reducible refine zE ?_) | ((with_reducible apply zP); (first | exact o_indexF rg0 frC_len (by decide) rfl rfl (by omega) rfl | exact o_addT rfl rfl (by (try simp) <;> omega) (by (try simp) <;> omega) | exact dp | exact oc rfl (h1) | exact oc rfl (h2))) | ((with_reducible apply zN); exact dn) | ((with_reducible apply zA); (first | ((apply o_app); (case hx => exact rfl); (case hm => exact rfl); (case hy => exact .own rfl rfl); (case hty => exact rfl); (case hl => solve | exact hxl | rfl); (case hcl => solve | rfl | exact hxl | simp); (case hpos => omega); (case hb => omega); (case hb2 => omega); (case hnew => exact rfl)) | ((apply o_app); (case hx => exact rfl); (case hm => exact rfl); (case hy => exact .sl rfl); (case hty => exact rfl); (case hl => solve | exact hxl | rfl); (case hcl => solve | rfl | exact hxl | simp); (case hpos => omega); (case hb => omega); (case hb2 => omega); (case hnew => exact rfl)) | exact da)) | ((with_reducible apply zS); exact ds) | ((with_reducible apply zY); exact rfl; exact rfl; exact tf) | ((with_reducible apply zG); exact rfl; exact rfl; exact tf) | ((with_reducible apply zU); exact rfl; exact rfl) | ((with_reducible apply zD); exact rfl; exact rfl) | ((with_reducible apply zB); exact rfl; exact rfl)))
    exact ⟨k + 1 + 1, hlt, by omega, (And.intro rfl (And.intro rfl (And.intro rfl (And.intro rfl (And.intro rfl trivial))))), (And.intro rfl (And.intro (hcl) trivial))⟩
end Go.Proofs.YtfcfmpdpjmbcnaaGreatDoor
