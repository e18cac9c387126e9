/- Strings of loops: strings.Cut; numbers; what the package appends. -/
import Derived.Test.YtfcfmpdpjmbcnaaGreatDoorNm
import Derived.Test.YtfcfmpdpjmbcnaaGreatDoorNi
import Derived.Test.YtfcfmpdpjmbcnaaGreatDoorNy
set_option linter.unusedVariables false
set_option linter.unusedSimpArgs false
namespace Go.Proofs.YtfcfmpdpjmbcnaaGreatDoor
open Go.RowKit
set_option maxRecDepth 20000
set_option maxHeartbeats 4000000

theorem cutS_A (l : List UInt8) (c : UInt8) (hl : l.length ≤ 1000000) : AC Tryz.prog 43 [T8 l, T8 [c]] (.tuple [T8 (Lib.cut l [c]).1, T8 (Lib.cut l [c]).2.1, B (Lib.cut l [c]).2.2]) := fun ok w vs hv hG => by
  have hv := repL_vals_eq (us := [.string ⟨l.toArray⟩, .string ⟨[c].toArray⟩]) hv
  subst hv
  obtain ⟨m, hm⟩ := hG.is.mxl
  have hg : Tryz.prog.globalNamed "internal/bytealg.MaxLen" = some 2 := by kernel_rfl
  have hm0 := World.var?_cell hg hm 0
  refine (Tryz.strings_Cut ⟨l.toArray⟩ ⟨[c].toArray⟩ m w (by rw [T8_size]; omega) (by simpa using hm0)).mono fun e w' ⟨he, n, hw⟩ => ⟨_, he, ?_, ?_⟩
  · rw [T8_list, T8_list, DV.rep]
    exact ⟨[.string _, .string _, .bool _], rfl, repL_vals [.string _, .string _, .bool _]⟩
  · rw [hw]; exact below_drewN (Below.refl _ _) n
/-- The number that Atoi gives. -/
def nAt (l : List UInt8) : Int := match Lib.atoiAll l with
  | .ok v => v
  | _ => errN l
theorem nAt_ok {l : List UInt8} {v : Int} (h : Lib.atoiAll l = .ok v) : nAt l = v := by unfold nAt; rw [h]
theorem nAt_err {l : List UInt8} (h : ∀ v, Lib.atoiAll l ≠ .ok v) : nAt l = errN l := by
  unfold nAt
  split
  · rename_i v e; exact absurd e (h v)
  · rfl
theorem nAt_i64 (l : List UInt8) : I64 (nAt l) := by
  by_cases h : ∃ v, Lib.atoiAll l = .ok v
  · obtain ⟨v, hv⟩ := h
    rw [nAt_ok hv]; exact atoi_i64 hv
  · rw [nAt_err fun v e => h ⟨v, e⟩]; exact errN_i64 l
theorem numS2_ok {sg : Bool} {p : List UInt8} {v : Int} (h : numS sg 2 p = some v) : Lib.itoa v = p ∧ Lib.atoiAll p = .ok v ∧ (Lib.trimPrefix p [45]).length ≤ 2 ∧ (sg = true ∨ 0 ≤ v) := by
  unfold numS at h
  split at h
  · cases h
  · rename_i hs
    obtain ⟨h1, h2, h3⟩ := numN_itoa (by decide) h
    have h4 := atoi_itoa h1
    rw [h2] at h4
    refine ⟨h2, h4, by rw [trimP]; exact h3, ?_⟩
    cases sg
    · refine .inr (Int.not_lt.1 fun hv => hs ?_)
      rw [← h2, decide_eq_true ((sign_itoa v).2 hv)]; rfl
    · exact .inl rfl
theorem numS2_of {sg : Bool} {p : List UInt8} {v : Int} (h2 : Lib.itoa v = p) (h3 : (Lib.trimPrefix p [45]).length ≤ 2) (h4 : sg = true ∨ 0 ≤ v) : numS sg 2 p = some v := by
  have hn : numN p 2 = some v := by
    subst h2
    exact numN_of (by rw [← trimP]; exact h3)
  unfold numS
  rw [if_neg, hn]
  intro h
  rw [Bool.and_eq_true, decide_eq_true_eq] at h
  rcases h4 with rfl | h4
  · exact absurd h.1 (by decide)
  · rw [← h2] at h
    have := (sign_itoa v).1 h.2
    omega
theorem numS2_not {sg : Bool} {p : List UInt8} {v : Int} (ha : Lib.atoiAll p = .ok v) (h : ¬ (Lib.itoa v = p ∧ (Lib.trimPrefix p [45]).length ≤ 2 ∧ (sg = true ∨ 0 ≤ v))) : numS sg 2 p = none := by
  cases hn : numS sg 2 p with
  | none => rfl
  | some u =>
    obtain ⟨h2, h3, h4, h5⟩ := numS2_ok hn
    rw [ha] at h3
    injection h3 with h3
    subst h3
    exact absurd ⟨h2, h4, h5⟩ h
theorem numS2_err {sg : Bool} {p : List UInt8} (h : ∀ v, Lib.atoiAll p ≠ .ok v) : numS sg 2 p = none := by
  cases hn : numS sg 2 p with
  | none => rfl
  | some v => exact absurd (numS2_ok hn).2.1 (h v)
theorem numS2_nAt {sg : Bool} {p : List UInt8} {v : Int} (h : numS sg 2 p = some v) : nAt p = v := nAt_ok (numS2_ok h).2.1
/-- A piece's number, by the package. -/
theorem numG_A (l : List UInt8) (sg : Bool) (hl : l.length ≤ 1000000) : AC Tryz.prog 44 [T8 l, B sg] (.tuple [I (nAt l), B (numS sg 2 l).isSome]) := by
  have htr := trimPrefix_A l [45]
  by_cases hex : ∃ v, Lib.atoiAll l = .ok v
  rotate_left
  · have hat := atoi_E l hl fun v h => hex ⟨v, h⟩
    rw [nAt_err fun v h => hex ⟨v, h⟩, numS2_err fun v h => hex ⟨v, h⟩]
    refine ac_body Tryz.func44 rfl (by kernel_rfl) fun w0 ok => ?_; show AWp _ (ctx0 w0 ok _) _ (ARet _ _ _) (entry _)
    (repeat' ((fail_if_success (with_reducible show AWp _ _ (.region 1 _ _) _ _)); (first | (with_reducible first | intro hg | refine mv (by constructor) ?_) | ((with_reducible first | refine zR ?_ ?_ | refine zW mixed ?_ ?_); exact kr) | ((with_reducible apply zK); exact rfl; exact tf) | ((with_reducible apply zCD); exact rfl) | ((with_reducible apply zCN); exact rfl) | ((with_reducible apply zC); exact rfl) | ((with_reducible refine zX ?_ ?_); exact rfl) | ((with_reducible refine zE (And.intro ?_ ?_)); exact kr) | (with_reducible refine zE ?_) | ((with_reducible apply zP); exact dp) | ((with_reducible apply zN); exact dn) | ((with_reducible apply zA); exact da) | ((with_reducible apply zS); exact ds) | ((with_reducible apply zY); exact rfl; exact rfl; exact tf) | ((with_reducible apply zG); exact rfl; exact rfl; exact tf) | ((with_reducible apply zU); exact rfl; exact rfl) | ((with_reducible apply zD); exact rfl; exact rfl) | ((with_reducible apply zB); exact rfl; exact rfl))))
    refine awp_regionL ?_
    ((refine wpl_run (l1 := [_]) rfl ?_ ?_); exact kr; (repeat' (first | (with_reducible first | intro hg | refine mv (by constructor) ?_) | ((with_reducible first | refine zR ?_ ?_ | refine zW mixed ?_ ?_); exact kr) | ((with_reducible apply zK); exact rfl; exact tf) | ((with_reducible apply zCD); exact rfl) | ((with_reducible apply zCN); exact rfl) | ((with_reducible apply zC); exact rfl) | ((with_reducible refine zX ?_ ?_); exact rfl) | ((with_reducible refine zE (And.intro ?_ ?_)); exact kr) | (with_reducible refine zE ?_) | ((with_reducible apply zP); exact dp) | ((with_reducible apply zN); exact dn) | ((with_reducible apply zA); exact da) | ((with_reducible apply zS); exact ds) | ((with_reducible apply zY); exact rfl; exact rfl; exact tf) | ((with_reducible apply zG); exact rfl; exact rfl; exact tf) | ((with_reducible apply zU); exact rfl; exact rfl) | ((with_reducible apply zD); exact rfl; exact rfl) | ((with_reducible apply zB); exact rfl; exact rfl))))
    refine wpl_callE rfl hat (by kernel_rfl) fun x => ?_
    ((refine wpl_run (l1 := [_, _, _, _, _]) rfl ?_ ?_); exact kr; (repeat' (first | (with_reducible first | intro hg | refine mv (by constructor) ?_) | ((with_reducible first | refine zR ?_ ?_ | refine zW mixed ?_ ?_); exact kr) | ((with_reducible apply zK); exact rfl; exact tf) | ((with_reducible apply zCD); exact rfl) | ((with_reducible apply zCN); exact rfl) | ((with_reducible apply zC); exact rfl) | ((with_reducible refine zX ?_ ?_); exact rfl) | ((with_reducible refine zE (And.intro ?_ ?_)); exact kr) | (with_reducible refine zE ?_) | ((with_reducible apply zP); exact dp) | ((with_reducible apply zN); exact dn) | ((with_reducible apply zA); exact da) | ((with_reducible apply zS); exact ds) | ((with_reducible apply zY); exact rfl; exact rfl; exact tf) | ((with_reducible apply zG); exact rfl; exact rfl; exact tf) | ((with_reducible apply zU); exact rfl; exact rfl) | ((with_reducible apply zD); exact rfl; exact rfl) | ((with_reducible apply zB); exact rfl; exact rfl))))
    refine wpl_nil ?_
    (repeat' (first | (with_reducible first | intro hg | refine mv (by constructor) ?_) | ((with_reducible first | refine zR ?_ ?_ | refine zW mixed ?_ ?_); exact kr) | ((with_reducible apply zK); exact rfl; exact tf) | ((with_reducible apply zCD); exact rfl) | ((with_reducible apply zCN); exact rfl) | ((with_reducible apply zC); exact rfl) | ((with_reducible refine zX ?_ ?_); exact rfl) | ((with_reducible refine zE (And.intro ?_ ?_)); exact kr) | (with_reducible refine zE ?_) | ((with_reducible apply zP); (first | exact o_eqlE Tryz.underlying146 rfl | exact dp)) | ((with_reducible apply zN); exact dn) | ((with_reducible apply zA); exact da) | ((with_reducible apply zS); exact ds) | ((with_reducible apply zY); exact rfl; exact rfl; exact tf) | ((with_reducible apply zG); exact rfl; exact rfl; exact tf) | ((with_reducible apply zU); exact rfl; exact rfl) | ((with_reducible apply zD); exact rfl; exact rfl) | ((with_reducible apply zB); exact rfl; exact rfl)))
    ((with_reducible first | apply q_retR | apply q_retN); exact rl)
    rfl
  obtain ⟨v, ha⟩ := hex
  have hvi := atoi_i64 ha
  have hat := atoi_A l hl v ha
  have hit := itoa_A v hvi
  rw [nAt_ok ha]
  by_cases h1 : Lib.itoa v = l
  rotate_left
  · rw [numS2_not ha fun h => h1 h.1]
    refine ac_body Tryz.func44 rfl (by kernel_rfl) fun w0 ok => ?_; show AWp _ (ctx0 w0 ok _) _ (ARet _ _ _) (entry _)
    (repeat' (first | (with_reducible first | intro hg | refine mv (by constructor) ?_) | ((with_reducible first | refine zR ?_ ?_ | refine zW mixed ?_ ?_); exact kr) | ((with_reducible apply zK); exact rfl; exact tf) | ((with_reducible apply zCD); exact rfl) | ((with_reducible apply zCN); exact rfl) | ((with_reducible apply zC); exact rfl) | ((with_reducible refine zX ?_ ?_); exact rfl) | ((with_reducible refine zE (And.intro ?_ ?_)); exact kr) | (with_reducible refine zE ?_) | ((with_reducible apply zP); (first | exact o_eqlE0 Tryz.underlying146 rfl | exact o_eqlT rfl rfl | exact dp | exact oc rfl (hat) | exact oc rfl (hit))) | ((with_reducible apply zN); exact dn) | ((with_reducible apply zA); exact da) | ((with_reducible apply zS); exact ds) | ((with_reducible apply zY); exact rfl; exact rfl; exact tf) | ((with_reducible apply zG); exact rfl; exact rfl; exact tf) | ((with_reducible apply zU); exact rfl; exact rfl) | ((with_reducible apply zD); exact rfl; exact rfl) | ((with_reducible apply zB); exact rfl; exact rfl)))
    ((with_reducible first | apply q_retR | apply q_retN); exact rl)
    rfl
  by_cases h3 : (Lib.trimPrefix l [45]).length ≤ 2
  rotate_left
  · rw [numS2_not ha fun h => h3 h.2.1]
    have h3' : ¬ ((Lib.trimPrefix l [45]).length : Int) ≤ 2 := by omega
    cases sg
    all_goals by_cases h2 : 0 ≤ v
    all_goals
      refine ac_body Tryz.func44 rfl (by kernel_rfl) fun w0 ok => ?_; show AWp _ (ctx0 w0 ok _) _ (ARet _ _ _) (entry _)
      (repeat' (first | (with_reducible first | intro hg | refine mv (by constructor) ?_) | ((with_reducible first | refine zR ?_ ?_ | refine zW mixed ?_ ?_); exact kr) | ((with_reducible apply zK); exact rfl; exact tf) | ((with_reducible apply zCD); exact rfl) | ((with_reducible apply zCN); exact rfl) | ((with_reducible apply zC); exact rfl) | ((with_reducible refine zX ?_ ?_); exact rfl) | ((with_reducible refine zE (And.intro ?_ ?_)); exact kr) | (with_reducible refine zE ?_) | ((with_reducible apply zP); (first | exact o_eqlE0 Tryz.underlying146 rfl | exact o_eqlT rfl rfl | exact o_lenT8 rfl | exact dp | exact oc rfl (hat) | exact oc rfl (hit) | exact oc rfl (htr))) | ((with_reducible apply zN); exact dn) | ((with_reducible apply zA); exact da) | ((with_reducible apply zS); exact ds) | ((with_reducible apply zY); exact rfl; exact rfl; exact tf) | ((with_reducible apply zG); exact rfl; exact rfl; exact tf) | ((with_reducible apply zU); exact rfl; exact rfl) | ((with_reducible apply zD); exact rfl; exact rfl) | ((with_reducible apply zB); exact rfl; exact rfl)))
      ((with_reducible first | apply q_retR | apply q_retN); exact rl)
      first | rfl | exact congrArg (fun b => DV.tuple [I v, B b]) (decide_eq_false h3').symm | exact congrArg (fun b => DV.tuple [I v, B b]) (decide_eq_true h3').symm
  have h3' : ((Lib.trimPrefix l [45]).length : Int) ≤ 2 := by omega
  by_cases h2 : sg = true ∨ 0 ≤ v
  · rw [numS2_of h1 h3 h2]
    cases sg
    · have h2 : 0 ≤ v := h2.resolve_left (by decide)
      refine ac_body Tryz.func44 rfl (by kernel_rfl) fun w0 ok => ?_; show AWp _ (ctx0 w0 ok _) _ (ARet _ _ _) (entry _)
      (repeat' (first | (with_reducible first | intro hg | refine mv (by constructor) ?_) | ((with_reducible first | refine zR ?_ ?_ | refine zW mixed ?_ ?_); exact kr) | ((with_reducible apply zK); exact rfl; exact tf) | ((with_reducible apply zCD); exact rfl) | ((with_reducible apply zCN); exact rfl) | ((with_reducible apply zC); exact rfl) | ((with_reducible refine zX ?_ ?_); exact rfl) | ((with_reducible refine zE (And.intro ?_ ?_)); exact kr) | (with_reducible refine zE ?_) | ((with_reducible apply zP); (first | exact o_eqlE0 Tryz.underlying146 rfl | exact o_eqlT rfl rfl | exact o_lenT8 rfl | exact dp | exact oc rfl (hat) | exact oc rfl (hit) | exact oc rfl (htr))) | ((with_reducible apply zN); exact dn) | ((with_reducible apply zA); exact da) | ((with_reducible apply zS); exact ds) | ((with_reducible apply zY); exact rfl; exact rfl; exact tf) | ((with_reducible apply zG); exact rfl; exact rfl; exact tf) | ((with_reducible apply zU); exact rfl; exact rfl) | ((with_reducible apply zD); exact rfl; exact rfl) | ((with_reducible apply zB); exact rfl; exact rfl)))
      ((with_reducible first | apply q_retR | apply q_retN); exact rl)
      first | rfl | exact congrArg (fun b => DV.tuple [I v, B b]) (decide_eq_false h3').symm | exact congrArg (fun b => DV.tuple [I v, B b]) (decide_eq_true h3').symm
    · clear h2
      by_cases h2 : 0 ≤ v
      all_goals
        refine ac_body Tryz.func44 rfl (by kernel_rfl) fun w0 ok => ?_; show AWp _ (ctx0 w0 ok _) _ (ARet _ _ _) (entry _)
        (repeat' (first | (with_reducible first | intro hg | refine mv (by constructor) ?_) | ((with_reducible first | refine zR ?_ ?_ | refine zW mixed ?_ ?_); exact kr) | ((with_reducible apply zK); exact rfl; exact tf) | ((with_reducible apply zCD); exact rfl) | ((with_reducible apply zCN); exact rfl) | ((with_reducible apply zC); exact rfl) | ((with_reducible refine zX ?_ ?_); exact rfl) | ((with_reducible refine zE (And.intro ?_ ?_)); exact kr) | (with_reducible refine zE ?_) | ((with_reducible apply zP); (first | exact o_eqlE0 Tryz.underlying146 rfl | exact o_eqlT rfl rfl | exact o_lenT8 rfl | exact dp | exact oc rfl (hat) | exact oc rfl (hit) | exact oc rfl (htr))) | ((with_reducible apply zN); exact dn) | ((with_reducible apply zA); exact da) | ((with_reducible apply zS); exact ds) | ((with_reducible apply zY); exact rfl; exact rfl; exact tf) | ((with_reducible apply zG); exact rfl; exact rfl; exact tf) | ((with_reducible apply zU); exact rfl; exact rfl) | ((with_reducible apply zD); exact rfl; exact rfl) | ((with_reducible apply zB); exact rfl; exact rfl)))
        ((with_reducible first | apply q_retR | apply q_retN); exact rl)
        first | rfl | exact congrArg (fun b => DV.tuple [I v, B b]) (decide_eq_false h3').symm | exact congrArg (fun b => DV.tuple [I v, B b]) (decide_eq_true h3').symm
  · rw [numS2_not ha fun h => h2 h.2.2]
    cases sg
    · have h2 : ¬ 0 ≤ v := fun h => h2 (.inr h)
      refine ac_body Tryz.func44 rfl (by kernel_rfl) fun w0 ok => ?_; show AWp _ (ctx0 w0 ok _) _ (ARet _ _ _) (entry _)
      (repeat' (first | (with_reducible first | intro hg | refine mv (by constructor) ?_) | ((with_reducible first | refine zR ?_ ?_ | refine zW mixed ?_ ?_); exact kr) | ((with_reducible apply zK); exact rfl; exact tf) | ((with_reducible apply zCD); exact rfl) | ((with_reducible apply zCN); exact rfl) | ((with_reducible apply zC); exact rfl) | ((with_reducible refine zX ?_ ?_); exact rfl) | ((with_reducible refine zE (And.intro ?_ ?_)); exact kr) | (with_reducible refine zE ?_) | ((with_reducible apply zP); (first | exact o_eqlE0 Tryz.underlying146 rfl | exact o_eqlT rfl rfl | exact o_lenT8 rfl | exact dp | exact oc rfl (hat) | exact oc rfl (hit) | exact oc rfl (htr))) | ((with_reducible apply zN); exact dn) | ((with_reducible apply zA); exact da) | ((with_reducible apply zS); exact ds) | ((with_reducible apply zY); exact rfl; exact rfl; exact tf) | ((with_reducible apply zG); exact rfl; exact rfl; exact tf) | ((with_reducible apply zU); exact rfl; exact rfl) | ((with_reducible apply zD); exact rfl; exact rfl) | ((with_reducible apply zB); exact rfl; exact rfl)))
      ((with_reducible first | apply q_retR | apply q_retN); exact rl)
      first | rfl | exact congrArg (fun b => DV.tuple [I v, B b]) (decide_eq_false h3').symm | exact congrArg (fun b => DV.tuple [I v, B b]) (decide_eq_true h3').symm
    · exact absurd (.inl rfl) h2
/-- What the package appends for a piece, whatever it is. -/
def gP (w : List UInt8) : Int × Int := (nAt (Lib.cut w [32]).1, nAt (Lib.cut w [32]).2.1)
theorem pairs_all : ∀ (r : List (List UInt8)), pairsS r = if r.all goodW = true then some (r.map gP) else none
  | [] => rfl
  | w :: r => by
    rw [pairsS_cons, pairs_all r, List.all_cons]
    rcases pair_cut w with ⟨h1, h2⟩ | ⟨x, y, h1, h2, h3, h4⟩
    · rw [h1, h2]; rfl
    · rw [h1, h2, Bool.true_and]
      have e : gP w = (x, y) := by unfold gP; rw [numS2_nAt h3, numS2_nAt h4]
      cases r.all goodW
      · rfl
      · show some ((x, y) :: r.map gP) = some (gP w :: r.map gP)
        rw [e]
theorem allG_take {ps : List (List UInt8)} {k : Nat} {p : List UInt8} (h : ps[k]? = some p) : (ps.take (k + 1)).all goodW = ((ps.take k).all goodW && goodW p) ∧ (ps.take (k + 1)).map gP = (ps.take k).map gP ++ [gP p] := by
  rw [List.take_add_one, h, List.all_append, List.map_append]
  exact ⟨by simp, rfl⟩
/-- The loop of a string, as the package makes it: the flag, the denominator, the pairs. -/
def lpF (s : List UInt8) : Bool := ((Lib.cut s [59]).2.2 && (numS false 2 (Lib.cut s [59]).1).isSome) && (cutA 44 [] (Lib.cut s [59]).2.1).all goodW
theorem loop_way (s : List UInt8) : loopP (cutA 59 [] s) = if lpF s = true then some (nAt (Lib.cut s [59]).1, (cutA 44 [] (Lib.cut s [59]).2.1).map gP) else none := by
  unfold lpF
  rcases loop_cut s with ⟨h1, h2⟩ | ⟨d, r, h1, _, h2⟩
  · rw [h1, h2]; rfl
  · rw [h1, h2, pairs_all]
    show _ = if ((true && (numS false 2 d).isSome) && (cutA 44 [] r).all goodW) = true then some (nAt d, (cutA 44 [] r).map gP) else none
    cases hd : numS false 2 d with
    | none => cases (cutA 44 [] r).all goodW <;> rfl
    | some x =>
      rw [numS2_nAt hd]
      cases (cutA 44 [] r).all goodW <;> rfl

end Go.Proofs.YtfcfmpdpjmbcnaaGreatDoor
