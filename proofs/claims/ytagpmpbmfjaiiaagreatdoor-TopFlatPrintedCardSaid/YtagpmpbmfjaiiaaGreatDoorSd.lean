/- Numbers of a string, by the package. -/
import Derived.Test.YtagpmpbmfjaiiaaGreatDoorSb
import Derived.Test.YtagpmpbmfjaiiaaGreatDoorNm
import Derived.Test.YtagpmpbmfjaiiaaGreatDoorNh
import Derived.Test.YtagpmpbmfjaiiaaGreatDoorM9
set_option linter.unusedVariables false
set_option linter.unusedSimpArgs false
namespace Go.Proofs.YtagpmpbmfjaiiaaGreatDoor
open Go.RowKit
set_option maxRecDepth 20000
set_option maxHeartbeats 8000000

abbrev nbS (sg : Bool) (l : List Int) (b cap : Nat) : AS := ⟨frL ((3, .ptr 3 0) :: (4, .ptr 4 0) :: (5, .ptr 5 0) :: (6, .ptr 6 0) :: lkF PN b cap 1 l.length), memL ((3, ⟨4, [B sg]⟩) :: (4, ⟨22, [nilV]⟩) :: (5, ⟨4, [B false]⟩) :: (6, ⟨22, [lkC b cap l.length]⟩) :: lkM PN 3 (ivs l) l.length)⟩
theorem seqY_at {c : UInt8} {s : List UInt8} {k : Nat} {d : YA} (h : (seqY c s)[k]? = some d) : ∃ p, (cutA c [] s)[k]? = some p ∧ d = .gv [T8 p] := by
  unfold seqY at h
  rw [List.getElem?_map] at h
  obtain ⟨p, h1, h2⟩ := Option.map_eq_some_iff.1 h
  exact ⟨p, h1, h2.symm⟩
theorem numS_atoi {sg : Bool} {p : List UInt8} (h : ∀ v, Lib.atoiAll p ≠ .ok v) : numS sg 6 p = none := by
  cases hn : numS sg 6 p with
  | none => rfl
  | some v => exact absurd (numS_ok hn).2.2.1 (h v)
theorem numS_not {sg : Bool} {p : List UInt8} {v : Int} (ha : Lib.atoiAll p = .ok v) (h : ¬ (Lib.itoa v = p ∧ (Lib.trimPrefix p [45]).length ≤ 6 ∧ (sg = true ∨ 0 ≤ v))) : numS sg 6 p = none := by
  cases hn : numS sg 6 p with
  | none => rfl
  | some u =>
    obtain ⟨_, h2, h3, h4, h5⟩ := numS_ok hn
    rw [ha] at h3
    injection h3 with h3
    subst h3
    exact absurd ⟨h2, h4, h5⟩ h
theorem isl_takeN {xs : List Int} {n : Nat} (h : xs.length = n) : DV.slice n ((ivs xs).take (n * 1)) = isl xs := by
  subst h
  rw [List.take_of_length_le (by simp [ivs])]
theorem fnumbers_A (sg : Bool) (s : List UInt8) (hs : s.length ≤ 1000000) (res : DV) (h0 : parL sg 6 s = none → res = .tuple [nilV, B false]) (h1 : ∀ l, parL sg 6 s = some l → res = .tuple [isl l, B true]) :
    AC Tryz.prog 54 [T8 s, B sg] res := by
  have hsp := splitSeq2_P s 32
  have hAY := splitSeq1_P s 32 hs
  have hlen := cutA_len 32 s []
  have hmem := cutA_mem 32 s []
  have hpos := cutA_pos 32 s []
  have hno := fun i hi h => h0 (parL_none (sg := sg) (s := s) (i := i) hi h)
  have hyl : (seqY 32 s).length = (cutA 32 [] s).length := by unfold seqY; rw [List.length_map]
  refine ac_body Tryz.func54 rfl (by kernel_rfl) fun w0 ok => ?_; show AWp _ (ctx0 w0 ok _) _ (ARet _ _ _) (entry _)
  (repeat' (first | (with_reducible first | intro hg | refine mv (by constructor) ?_) | ((with_reducible first | refine zR ?_ ?_ | refine zW mixed ?_ ?_); exact kr) | ((with_reducible apply zK); exact rfl; exact tf) | ((with_reducible apply zCD); exact rfl) | ((with_reducible apply zCN); exact rfl) | ((with_reducible apply zC); exact rfl) | ((with_reducible refine zX ?_ ?_); exact rfl) | ((with_reducible refine zE (And.intro ?_ ?_)); exact kr) | (with_reducible refine zE ?_) | ((with_reducible apply zP); exact dp) | ((with_reducible apply zN); (first | exact dn | exact o_callP rfl hsp)) | ((with_reducible apply zA); exact da) | ((with_reducible apply zS); exact ds) | ((with_reducible apply zY); exact rfl; exact rfl; exact tf) | ((with_reducible apply zG); exact rfl; exact rfl; exact tf) | ((with_reducible apply zU); exact rfl; exact rfl) | ((with_reducible apply zD); exact rfl; exact rfl) | ((with_reducible apply zB); exact rfl; exact rfl)))
  refine awp_rangeFuncP (n0 := 11) (psl := [12]) (xs := seqY 32 s) (fin := true) (fun _ (y : List Int × Nat × Nat) => nbS sg y.1 y.2.1 y.2.2)
    (fun k y => k ≤ (cutA 32 [] s).length ∧ numsL sg 6 ((cutA 32 [] s).take k) = some y.1 ∧ LkJ y.2.1 y.2.2 y.1.length) ([], 0, 0) (EntI.eq (P := Tryz.prog) (f := 133)) rfl rfl rfl hAY ⟨Nat.zero_le _, rfl, .inl rfl⟩ (le_of (And.intro rfl (And.intro rfl (And.intro rfl (And.intro rfl trivial)))) (And.intro rfl (And.intro rfl (And.intro rfl (And.intro rfl trivial))))) (by decide) (fun d hd => by obtain ⟨l, _, rfl⟩ := List.mem_map.1 hd; rfl) (fun k y d hI hd W ok' rd ex gv => ?_) (by simp) (fun _ y hI => ?_)
  rotate_left
  · obtain ⟨l, b, cap⟩ := y
    obtain ⟨_, hn, hj⟩ := hI
    have hn : numsL sg 6 ((cutA 32 [] s).take (seqY 32 s).length) = some l := hn
    have hj : LkJ b cap l.length := hj
    rw [hyl, List.take_length] at hn
    obtain rfl := h1 l hn
    have hll := numsL_len sg 6 _ _ hn
    clear hno hmem hAY hsp h0 h1 hn hs
    rcases l with _ | ⟨x, l⟩
    · simp only [List.length_nil] at hll; omega
    · obtain ⟨hb1, hb2⟩ := hj.resolve_left (by simp)
      refine awp_turn (turns_unlink 6 0 PN (by rfl) (by rfl) (by rfl) (by rfl) (by rfl) (by decide) hb1 hb2) fun _ => ?_
      (repeat' (first | (with_reducible first | intro hg | refine mv (by constructor) ?_) | ((with_reducible first | refine zR ?_ ?_ | refine zW mixed ?_ ?_); exact kr) | ((with_reducible apply zK); exact rfl; exact tf) | ((with_reducible apply zCD); exact rfl) | ((with_reducible apply zCN); exact rfl) | ((with_reducible apply zC); exact rfl) | ((with_reducible refine zX ?_ ?_); exact rfl) | ((with_reducible refine zE (And.intro ?_ ?_)); exact kr) | (with_reducible refine zE ?_) | ((with_reducible apply zP); exact dp) | ((with_reducible apply zN); exact dn) | ((with_reducible apply zA); exact da) | ((with_reducible apply zS); exact ds) | ((with_reducible apply zY); exact rfl; exact rfl; exact tf) | ((with_reducible apply zG); exact rfl; exact rfl; exact tf) | ((with_reducible apply zU); exact rfl; exact rfl) | ((with_reducible apply zD); exact rfl; exact rfl) | ((with_reducible apply zB); exact rfl; exact rfl)))
      ((with_reducible first | apply q_retR | apply q_retN); exact rl)
      show DV.tuple [isl (x :: l), B true] = DV.tuple [.slice (l.length + 1) ((ivs (x :: l)).take ((l.length + 1) * 1)), B true]
      rw [isl_takeN (xs := x :: l) (n := l.length + 1) rfl]
  obtain ⟨p, hp, rfl⟩ := seqY_at hd
  obtain ⟨l, b, cap⟩ := y
  obtain ⟨hk, hn, hj⟩ := hI
  have hn : numsL sg 6 ((cutA 32 [] s).take k) = some l := hn
  have hj : LkJ b cap l.length := hj
  have hklt : k < (cutA 32 [] s).length := (List.getElem?_eq_some_iff.1 hp).1
  have hpm : p ∈ cutA 32 [] s := List.mem_of_getElem? hp
  have hpl : p.length ≤ s.length := by simpa using hmem p hpm
  have htk : (cutA 32 [] s).take (k + 1) = (cutA 32 [] s).take k ++ [p] := by rw [List.take_add_one, hp]; rfl
  have hsn := numsL_snoc sg 6 p _ l hn
  rw [← htk] at hsn
  have hll := numsL_len sg 6 _ _ hn
  rw [List.length_take, Nat.min_eq_left hk] at hll
  have hbad : numS sg 6 p = none → res = .tuple [nilV, B false] := fun h => hno k hklt (by rw [List.getD_eq_getElem?_getD, hp]; exact h)
  have htr := trimPrefix_A p [45]
  show AWp _ _ _ _ (bodyS (nbS sg l b cap) _ _)
  clear hno hmem hAY hsp h0 h1 hn hd hyl htk hpm hpos
  generalize (cutA 32 [] s).length = m at *
  by_cases hex : ∃ v, Lib.atoiAll p = .ok v
  rotate_left
  · have hat := atoi_E p (by omega) fun v h => hex ⟨v, h⟩
    obtain rfl := hbad (numS_atoi fun v h => hex ⟨v, h⟩)
    refine awp_cut [(12, .d (T8 p)), (1000004, .ptr 4 0), (1000005, .ptr 5 0), (3, .ptr 3 0), (4, .ptr 4 0), (5, .ptr 5 0)] [(3, ⟨4, [B sg]⟩), (4, ⟨22, [nilV]⟩), (5, ⟨4, [B false]⟩)] (And.intro rfl (And.intro rfl (And.intro rfl (And.intro rfl (And.intro rfl (And.intro rfl trivial)))))) (And.intro rfl (And.intro rfl (And.intro rfl trivial))) ?_
    clear hsn hbad htr
    (repeat' (first | (with_reducible first | intro hg | refine mv (by constructor) ?_) | ((with_reducible first | refine zR ?_ ?_ | refine zW mixed ?_ ?_); exact kr) | ((with_reducible apply zK); exact rfl; exact tf) | ((with_reducible apply zCD); exact rfl) | ((with_reducible apply zCN); exact rfl) | ((with_reducible apply zC); exact rfl) | ((with_reducible refine zX ?_ ?_); exact rfl) | ((with_reducible refine zE (And.intro ?_ ?_)); exact kr) | (with_reducible refine zE ?_) | ((with_reducible apply zP); exact dp) | ((with_reducible apply zN); exact dn) | ((with_reducible apply zA); exact da) | ((with_reducible apply zS); exact ds) | ((with_reducible apply zY); exact rfl; exact rfl; exact tf) | ((with_reducible apply zG); exact rfl; exact rfl; exact tf) | ((with_reducible apply zU); exact rfl; exact rfl) | ((with_reducible apply zD); exact rfl; exact rfl) | ((with_reducible apply zB); exact rfl; exact rfl)))
    refine ⟨rfl, fun W' => ?_⟩
    (repeat' ((fail_if_success (with_reducible show AWp _ _ (.region 4 _ _) _ _)); (first | (with_reducible first | intro hg | refine mv (by constructor) ?_) | ((with_reducible first | refine zR ?_ ?_ | refine zW mixed ?_ ?_); exact kr) | ((with_reducible apply zK); exact rfl; exact tf) | ((with_reducible apply zCD); exact rfl) | ((with_reducible apply zCN); exact rfl) | ((with_reducible apply zC); exact rfl) | ((with_reducible refine zX ?_ ?_); exact rfl) | ((with_reducible refine zE (And.intro ?_ ?_)); exact kr) | (with_reducible refine zE ?_) | ((with_reducible apply zP); exact dp) | ((with_reducible apply zN); exact dn) | ((with_reducible apply zA); exact da) | ((with_reducible apply zS); exact ds) | ((with_reducible apply zY); exact rfl; exact rfl; exact tf) | ((with_reducible apply zG); exact rfl; exact rfl; exact tf) | ((with_reducible apply zU); exact rfl; exact rfl) | ((with_reducible apply zD); exact rfl; exact rfl) | ((with_reducible apply zB); exact rfl; exact rfl))))
    refine awp_regionL ?_
    ((refine wpl_run (l1 := [_]) rfl ?_ ?_); exact kr; (repeat' (first | (with_reducible first | intro hg | refine mv (by constructor) ?_) | ((with_reducible first | refine zR ?_ ?_ | refine zW mixed ?_ ?_); exact kr) | ((with_reducible apply zK); exact rfl; exact tf) | ((with_reducible apply zCD); exact rfl) | ((with_reducible apply zCN); exact rfl) | ((with_reducible apply zC); exact rfl) | ((with_reducible refine zX ?_ ?_); exact rfl) | ((with_reducible refine zE (And.intro ?_ ?_)); exact kr) | (with_reducible refine zE ?_) | ((with_reducible apply zP); exact dp) | ((with_reducible apply zN); exact dn) | ((with_reducible apply zA); exact da) | ((with_reducible apply zS); exact ds) | ((with_reducible apply zY); exact rfl; exact rfl; exact tf) | ((with_reducible apply zG); exact rfl; exact rfl; exact tf) | ((with_reducible apply zU); exact rfl; exact rfl) | ((with_reducible apply zD); exact rfl; exact rfl) | ((with_reducible apply zB); exact rfl; exact rfl))))
    refine wpl_callE rfl hat (by kernel_rfl) fun x => ?_
    ((refine wpl_run (l1 := [_, _, _, _, _]) rfl ?_ ?_); exact kr; (repeat' (first | (with_reducible first | intro hg | refine mv (by constructor) ?_) | ((with_reducible first | refine zR ?_ ?_ | refine zW mixed ?_ ?_); exact kr) | ((with_reducible apply zK); exact rfl; exact tf) | ((with_reducible apply zCD); exact rfl) | ((with_reducible apply zCN); exact rfl) | ((with_reducible apply zC); exact rfl) | ((with_reducible refine zX ?_ ?_); exact rfl) | ((with_reducible refine zE (And.intro ?_ ?_)); exact kr) | (with_reducible refine zE ?_) | ((with_reducible apply zP); exact dp) | ((with_reducible apply zN); exact dn) | ((with_reducible apply zA); exact da) | ((with_reducible apply zS); exact ds) | ((with_reducible apply zY); exact rfl; exact rfl; exact tf) | ((with_reducible apply zG); exact rfl; exact rfl; exact tf) | ((with_reducible apply zU); exact rfl; exact rfl) | ((with_reducible apply zD); exact rfl; exact rfl) | ((with_reducible apply zB); exact rfl; exact rfl))))
    refine wpl_nil ?_
    (repeat' (first | (with_reducible first | intro hg | refine mv (by constructor) ?_) | ((with_reducible first | refine zR ?_ ?_ | refine zW mixed ?_ ?_); exact kr) | ((with_reducible apply zK); exact rfl; exact tf) | ((with_reducible apply zCD); exact rfl) | ((with_reducible apply zCN); exact rfl) | ((with_reducible apply zC); exact rfl) | ((with_reducible refine zX ?_ ?_); exact rfl) | ((with_reducible refine zE (And.intro ?_ ?_)); exact kr) | (with_reducible refine zE ?_) | ((with_reducible apply zP); (first | exact o_neqE Tryz.underlying141 rfl | exact dp)) | ((with_reducible apply zN); exact dn) | ((with_reducible apply zA); exact da) | ((with_reducible apply zS); exact ds) | ((with_reducible apply zY); exact rfl; exact rfl; exact tf) | ((with_reducible apply zG); exact rfl; exact rfl; exact tf) | ((with_reducible apply zU); exact rfl; exact rfl) | ((with_reducible apply zD); exact rfl; exact rfl) | ((with_reducible apply zB); exact rfl; exact rfl)))
    refine ⟨trivial, ?_⟩
    show ARet _ _ _ .ret (uns _)
    ((with_reducible first | apply q_retR | apply q_retN); exact rl)
    rfl
  obtain ⟨v, ha⟩ := hex
  have hvi := atoi_i64 ha
  have hat := atoi_A p (by omega) v ha
  have hit := itoa_A v hvi
  by_cases hall : Lib.itoa v = p ∧ (Lib.trimPrefix p [45]).length ≤ 6 ∧ (sg = true ∨ 0 ≤ v)
  rotate_left
  · obtain rfl := hbad (numS_not ha hall)
    refine awp_cut [(12, .d (T8 p)), (1000004, .ptr 4 0), (1000005, .ptr 5 0), (3, .ptr 3 0), (4, .ptr 4 0), (5, .ptr 5 0)] [(3, ⟨4, [B sg]⟩), (4, ⟨22, [nilV]⟩), (5, ⟨4, [B false]⟩)] (And.intro rfl (And.intro rfl (And.intro rfl (And.intro rfl (And.intro rfl (And.intro rfl trivial)))))) (And.intro rfl (And.intro rfl (And.intro rfl trivial))) ?_
    clear hsn hbad hll hj hk hklt
    (repeat' (first | (with_reducible first | intro hg | refine mv (by constructor) ?_) | ((with_reducible first | refine zR ?_ ?_ | refine zW mixed ?_ ?_); exact kr) | ((with_reducible apply zK); exact rfl; exact tf) | ((with_reducible apply zCD); exact rfl) | ((with_reducible apply zCN); exact rfl) | ((with_reducible apply zC); exact rfl) | ((with_reducible refine zX ?_ ?_); exact rfl) | ((with_reducible refine zE (And.intro ?_ ?_)); exact kr) | (with_reducible refine zE ?_) | ((with_reducible apply zP); exact dp) | ((with_reducible apply zN); exact dn) | ((with_reducible apply zA); exact da) | ((with_reducible apply zS); exact ds) | ((with_reducible apply zY); exact rfl; exact rfl; exact tf) | ((with_reducible apply zG); exact rfl; exact rfl; exact tf) | ((with_reducible apply zU); exact rfl; exact rfl) | ((with_reducible apply zD); exact rfl; exact rfl) | ((with_reducible apply zB); exact rfl; exact rfl)))
    refine ⟨rfl, fun W' => ?_⟩
    by_cases hA : Lib.itoa v = p
    rotate_left
    · (repeat' (first | (with_reducible first | intro hg | refine mv (by constructor) ?_) | ((with_reducible first | refine zR ?_ ?_ | refine zW mixed ?_ ?_); exact kr) | ((with_reducible apply zK); exact rfl; exact tf) | ((with_reducible apply zCD); exact rfl) | ((with_reducible apply zCN); exact rfl) | ((with_reducible apply zC); exact rfl) | ((with_reducible refine zX ?_ ?_); exact rfl) | ((with_reducible refine zE (And.intro ?_ ?_)); exact kr) | (with_reducible refine zE ?_) | ((with_reducible apply zP); (first | exact o_neqE0 Tryz.underlying141 rfl | exact o_neqT rfl rfl | exact dp | exact oc rfl (hat) | exact oc rfl (hit))) | ((with_reducible apply zN); exact dn) | ((with_reducible apply zA); exact da) | ((with_reducible apply zS); exact ds) | ((with_reducible apply zY); exact rfl; exact rfl; exact tf) | ((with_reducible apply zG); exact rfl; exact rfl; exact tf) | ((with_reducible apply zU); exact rfl; exact rfl) | ((with_reducible apply zD); exact rfl; exact rfl) | ((with_reducible apply zB); exact rfl; exact rfl)))
      refine ⟨trivial, ?_⟩
      show ARet _ _ _ .ret (uns _)
      ((with_reducible first | apply q_retR | apply q_retN); exact rl)
      rfl
    by_cases hC : (Lib.trimPrefix p [45]).length ≤ 6
    · have hB : sg = false ∧ v < 0 := by
        cases sg
        · exact ⟨rfl, Int.not_le.1 fun h => hall ⟨hA, hC, .inr h⟩⟩
        · exact absurd ⟨hA, hC, .inl rfl⟩ hall
      obtain ⟨rfl, hv⟩ := hB
      (repeat' (first | (with_reducible first | intro hg | refine mv (by constructor) ?_) | ((with_reducible first | refine zR ?_ ?_ | refine zW mixed ?_ ?_); exact kr) | ((with_reducible apply zK); exact rfl; exact tf) | ((with_reducible apply zCD); exact rfl) | ((with_reducible apply zCN); exact rfl) | ((with_reducible apply zC); exact rfl) | ((with_reducible refine zX ?_ ?_); exact rfl) | ((with_reducible refine zE (And.intro ?_ ?_)); exact kr) | (with_reducible refine zE ?_) | ((with_reducible apply zP); (first | exact o_neqE0 Tryz.underlying141 rfl | exact o_neqT rfl rfl | exact dp | exact oc rfl (hat) | exact oc rfl (hit))) | ((with_reducible apply zN); exact dn) | ((with_reducible apply zA); exact da) | ((with_reducible apply zS); exact ds) | ((with_reducible apply zY); exact rfl; exact rfl; exact tf) | ((with_reducible apply zG); exact rfl; exact rfl; exact tf) | ((with_reducible apply zU); exact rfl; exact rfl) | ((with_reducible apply zD); exact rfl; exact rfl) | ((with_reducible apply zB); exact rfl; exact rfl)))
      refine ⟨trivial, ?_⟩
      show ARet _ _ _ .ret (uns _)
      ((with_reducible first | apply q_retR | apply q_retN); exact rl)
      rfl
    · have hC' : (6 : Int) < ((Lib.trimPrefix p [45]).length : Nat) := by omega
      clear hall
      cases sg
      all_goals by_cases hv : v < 0
      all_goals
        (repeat' (first | (with_reducible first | intro hg | refine mv (by constructor) ?_) | ((with_reducible first | refine zR ?_ ?_ | refine zW mixed ?_ ?_); exact kr) | ((with_reducible apply zK); exact rfl; exact tf) | ((with_reducible apply zCD); exact rfl) | ((with_reducible apply zCN); exact rfl) | ((with_reducible apply zC); exact rfl) | ((with_reducible refine zX ?_ ?_); exact rfl) | ((with_reducible refine zE (And.intro ?_ ?_)); exact kr) | (with_reducible refine zE ?_) | ((with_reducible apply zP); (first | exact o_neqE0 Tryz.underlying141 rfl | exact o_neqT rfl rfl | exact o_lenT8 rfl | exact dp | exact oc rfl (hat) | exact oc rfl (hit) | exact oc rfl (htr))) | ((with_reducible apply zN); exact dn) | ((with_reducible apply zA); exact da) | ((with_reducible apply zS); exact ds) | ((with_reducible apply zY); exact rfl; exact rfl; exact tf) | ((with_reducible apply zG); exact rfl; exact rfl; exact tf) | ((with_reducible apply zU); exact rfl; exact rfl) | ((with_reducible apply zD); exact rfl; exact rfl) | ((with_reducible apply zB); exact rfl; exact rfl)))
        refine ⟨trivial, ?_⟩
        show ARet _ _ _ .ret (uns _)
        ((with_reducible first | apply q_retR | apply q_retN); exact rl)
        rfl
  obtain ⟨hA, hC, hB⟩ := hall
  have hS := numS_of hA hC hB
  rw [hS] at hsn
  have hsn : numsL sg 6 ((cutA 32 [] s).take (k + 1)) = some (l ++ [v]) := hsn
  have hC' : ¬ (6 : Int) < ((Lib.trimPrefix p [45]).length : Nat) := by omega
  have hB' : sg = false → ¬ v < 0 := fun h => by
    rcases hB with hB | hB
    · rw [h] at hB; cases hB
    · omega
  clear hbad hB hC hS ha
  rcases l with _ | ⟨x, l⟩
  · refine awp_cut [(12, .d (T8 p)), (3, .ptr 3 0), (4, .ptr 4 0), (5, .ptr 5 0), (6, .ptr 6 0), (1000003, .ptr 3 0), (1000004, .ptr 4 0), (1000005, .ptr 5 0), (1000006, .ptr 6 0)] [(3, ⟨4, [B sg]⟩), (4, ⟨22, [nilV]⟩), (5, ⟨4, [B false]⟩), (6, ⟨22, [nilV]⟩)] (And.intro rfl (And.intro rfl (And.intro rfl (And.intro rfl (And.intro rfl (And.intro rfl (And.intro rfl (And.intro rfl (And.intro rfl trivial))))))))) (And.intro rfl (And.intro rfl (And.intro rfl (And.intro rfl trivial)))) ?_
    (repeat' (first | (with_reducible first | intro hg | refine mv (by constructor) ?_) | ((with_reducible first | refine zR ?_ ?_ | refine zW mixed ?_ ?_); exact kr) | ((with_reducible apply zK); exact rfl; exact tf) | ((with_reducible apply zCD); exact rfl) | ((with_reducible apply zCN); exact rfl) | ((with_reducible apply zC); exact rfl) | ((with_reducible refine zX ?_ ?_); exact rfl) | ((with_reducible refine zE (And.intro ?_ ?_)); exact kr) | (with_reducible refine zE ?_) | ((with_reducible apply zP); exact dp) | ((with_reducible apply zN); exact dn) | ((with_reducible apply zA); exact da) | ((with_reducible apply zS); exact ds) | ((with_reducible apply zY); exact rfl; exact rfl; exact tf) | ((with_reducible apply zG); exact rfl; exact rfl; exact tf) | ((with_reducible apply zU); exact rfl; exact rfl) | ((with_reducible apply zD); exact rfl; exact rfl) | ((with_reducible apply zB); exact rfl; exact rfl)))
    refine ⟨rfl, fun W' => ?_⟩
    cases sg
    all_goals first | have hv := hB' rfl | by_cases hv : v < 0
    all_goals
      (repeat' ((fail_if_success (with_reducible show AWp _ _ (.region 7 _ _) _ _)); (first | (with_reducible first | intro hg | refine mv (by constructor) ?_) | ((with_reducible first | refine zR ?_ ?_ | refine zW mixed ?_ ?_); exact kr) | ((with_reducible apply zK); exact rfl; exact tf) | ((with_reducible apply zCD); exact rfl) | ((with_reducible apply zCN); exact rfl) | ((with_reducible apply zC); exact rfl) | ((with_reducible refine zX ?_ ?_); exact rfl) | ((with_reducible refine zE (And.intro ?_ ?_)); exact kr) | (with_reducible refine zE ?_) | ((with_reducible apply zP); (first | exact o_neqE0 Tryz.underlying141 rfl | exact o_neqT rfl rfl | exact o_lenT8 rfl | exact dp | exact oc rfl (hat) | exact oc rfl (hit) | exact oc rfl (htr))) | ((with_reducible apply zN); exact dn) | ((with_reducible apply zA); exact da) | ((with_reducible apply zS); exact ds) | ((with_reducible apply zY); exact rfl; exact rfl; exact tf) | ((with_reducible apply zG); exact rfl; exact rfl; exact tf) | ((with_reducible apply zU); exact rfl; exact rfl) | ((with_reducible apply zD); exact rfl; exact rfl) | ((with_reducible apply zB); exact rfl; exact rfl))))
      refine awp_regionL ?_
      ((refine wpl_run (l1 := [_, _, _, _]) rfl ?_ ?_); exact kr; (repeat' (first | (with_reducible first | intro hg | refine mv (by constructor) ?_) | ((with_reducible first | refine zR ?_ ?_ | refine zW mixed ?_ ?_); exact kr) | ((with_reducible apply zK); exact rfl; exact tf) | ((with_reducible apply zCD); exact rfl) | ((with_reducible apply zCN); exact rfl) | ((with_reducible apply zC); exact rfl) | ((with_reducible refine zX ?_ ?_); exact rfl) | ((with_reducible refine zE (And.intro ?_ ?_)); exact kr) | (with_reducible refine zE ?_) | ((with_reducible apply zP); exact dp) | ((with_reducible apply zN); exact dn) | ((with_reducible apply zA); exact da) | ((with_reducible apply zS); exact ds) | ((with_reducible apply zY); exact rfl; exact rfl; exact tf) | ((with_reducible apply zG); exact rfl; exact rfl; exact tf) | ((with_reducible apply zU); exact rfl; exact rfl) | ((with_reducible apply zD); exact rfl; exact rfl) | ((with_reducible apply zB); exact rfl; exact rfl))))
      refine wpl_turn (turns_pin 43 43 PN (by rfl) (by rfl) (by rfl) (by rfl) (by kernel_rfl)) fun x => ?_
      ((refine wpl_run (l1 := [_]) rfl ?_ ?_); exact kr; (repeat' (first | (with_reducible first | intro hg | refine mv (by constructor) ?_) | ((with_reducible first | refine zR ?_ ?_ | refine zW mixed ?_ ?_); exact kr) | ((with_reducible apply zK); exact rfl; exact tf) | ((with_reducible apply zCD); exact rfl) | ((with_reducible apply zCN); exact rfl) | ((with_reducible apply zC); exact rfl) | ((with_reducible refine zX ?_ ?_); exact rfl) | ((with_reducible refine zE (And.intro ?_ ?_)); exact kr) | (with_reducible refine zE ?_) | ((with_reducible apply zP); exact dp) | ((with_reducible apply zN); exact dn) | ((with_reducible apply zA); exact da) | ((with_reducible apply zS); exact ds) | ((with_reducible apply zY); exact rfl; exact rfl; exact tf) | ((with_reducible apply zG); exact rfl; exact rfl; exact tf) | ((with_reducible apply zU); exact rfl; exact rfl) | ((with_reducible apply zD); exact rfl; exact rfl) | ((with_reducible apply zB); exact rfl; exact rfl))))
      refine wpl_nil ?_
      (repeat' (first | (with_reducible first | intro hg | refine mv (by constructor) ?_) | ((with_reducible first | refine zR ?_ ?_ | refine zW mixed ?_ ?_); exact kr) | ((with_reducible apply zK); exact rfl; exact tf) | ((with_reducible apply zCD); exact rfl) | ((with_reducible apply zCN); exact rfl) | ((with_reducible apply zC); exact rfl) | ((with_reducible refine zX ?_ ?_); exact rfl) | ((with_reducible refine zE (And.intro ?_ ?_)); exact kr) | (with_reducible refine zE ?_) | ((with_reducible apply zP); exact dp) | ((with_reducible apply zN); exact dn) | ((with_reducible apply zA); exact da) | ((with_reducible apply zS); exact ds) | ((with_reducible apply zY); exact rfl; exact rfl; exact tf) | ((with_reducible apply zG); exact rfl; exact rfl; exact tf) | ((with_reducible apply zU); exact rfl; exact rfl) | ((with_reducible apply zD); exact rfl; exact rfl) | ((with_reducible apply zB); exact rfl; exact rfl)))
      exact ⟨trivial, ([v], x.1.1, x.1.2), ⟨hklt, hsn, .inr x.2⟩, le_of (And.intro rfl (And.intro rfl (And.intro rfl (And.intro rfl (And.intro rfl trivial))))) (And.intro rfl (And.intro rfl (And.intro rfl (And.intro rfl (And.intro rfl trivial)))))⟩
  · obtain ⟨ha1, ha2⟩ := hj.resolve_left (by simp)
    have hx1 : (ivs (x :: l)).length = (l.length + 1) * 1 := by simp [ivs]
    have hl1 : l.length + 1 = k := by simpa using hll
    clear hll
    have hbl : some (Blk.mk 3 (ivs (x :: l) ++ [I v])) = some ⟨3, ivs (x :: l ++ [v])⟩ := by simp [ivs]
    refine awp_cut [(12, .d (T8 p)), (3, .ptr 3 0), (4, .ptr 4 0), (5, .ptr 5 0), (6, .ptr 6 0), (1000003, .ptr 3 0), (1000004, .ptr 4 0), (1000005, .ptr 5 0), (1000006, .ptr 6 0), (PN, linkP b cap 1)] [(3, ⟨4, [B sg]⟩), (4, ⟨22, [nilV]⟩), (5, ⟨4, [B false]⟩), (6, ⟨22, [linkC b cap (l.length + 1)]⟩), (PN, ⟨3, ivs (x :: l)⟩)] (And.intro rfl (And.intro rfl (And.intro rfl (And.intro rfl (And.intro rfl (And.intro rfl (And.intro rfl (And.intro rfl (And.intro rfl (And.intro rfl trivial)))))))))) (And.intro rfl (And.intro rfl (And.intro rfl (And.intro rfl (And.intro rfl trivial))))) ?_
    (repeat' (first | (with_reducible first | intro hg | refine mv (by constructor) ?_) | ((with_reducible first | refine zR ?_ ?_ | refine zW mixed ?_ ?_); exact kr) | ((with_reducible apply zK); exact rfl; exact tf) | ((with_reducible apply zCD); exact rfl) | ((with_reducible apply zCN); exact rfl) | ((with_reducible apply zC); exact rfl) | ((with_reducible refine zX ?_ ?_); exact rfl) | ((with_reducible refine zE (And.intro ?_ ?_)); exact kr) | (with_reducible refine zE ?_) | ((with_reducible apply zP); exact dp) | ((with_reducible apply zN); exact dn) | ((with_reducible apply zA); exact da) | ((with_reducible apply zS); exact ds) | ((with_reducible apply zY); exact rfl; exact rfl; exact tf) | ((with_reducible apply zG); exact rfl; exact rfl; exact tf) | ((with_reducible apply zU); exact rfl; exact rfl) | ((with_reducible apply zD); exact rfl; exact rfl) | ((with_reducible apply zB); exact rfl; exact rfl)))
    refine ⟨rfl, fun W' => ?_⟩
    cases sg
    all_goals first | have hv := hB' rfl | by_cases hv : v < 0
    all_goals
      (repeat' ((fail_if_success (with_reducible show AWp _ _ (.region 7 _ _) _ _)); (first | (with_reducible first | intro hg | refine mv (by constructor) ?_) | ((with_reducible first | refine zR ?_ ?_ | refine zW mixed ?_ ?_); exact kr) | ((with_reducible apply zK); exact rfl; exact tf) | ((with_reducible apply zCD); exact rfl) | ((with_reducible apply zCN); exact rfl) | ((with_reducible apply zC); exact rfl) | ((with_reducible refine zX ?_ ?_); exact rfl) | ((with_reducible refine zE (And.intro ?_ ?_)); exact kr) | (with_reducible refine zE ?_) | ((with_reducible apply zP); (first | exact o_neqE0 Tryz.underlying141 rfl | exact o_neqT rfl rfl | exact o_lenT8 rfl | exact dp | exact oc rfl (hat) | exact oc rfl (hit) | exact oc rfl (htr))) | ((with_reducible apply zN); exact dn) | ((with_reducible apply zA); exact da) | ((with_reducible apply zS); exact ds) | ((with_reducible apply zY); exact rfl; exact rfl; exact tf) | ((with_reducible apply zG); exact rfl; exact rfl; exact tf) | ((with_reducible apply zU); exact rfl; exact rfl) | ((with_reducible apply zD); exact rfl; exact rfl) | ((with_reducible apply zB); exact rfl; exact rfl))))
      refine awp_regionL ?_
      ((refine wpl_run (l1 := [_, _, _, _]) rfl ?_ ?_); exact kr; (repeat' (first | (with_reducible first | intro hg | refine mv (by constructor) ?_) | ((with_reducible first | refine zR ?_ ?_ | refine zW mixed ?_ ?_); exact kr) | ((with_reducible apply zK); exact rfl; exact tf) | ((with_reducible apply zCD); exact rfl) | ((with_reducible apply zCN); exact rfl) | ((with_reducible apply zC); exact rfl) | ((with_reducible refine zX ?_ ?_); exact rfl) | ((with_reducible refine zE (And.intro ?_ ?_)); exact kr) | (with_reducible refine zE ?_) | ((with_reducible apply zP); (first | exact o_loadLk (L := PN) (sz := 1) rfl rfl rfl rfl (by rfl) (by exact ha1) (by exact ha2) | exact dp)) | ((with_reducible apply zN); exact dn) | ((with_reducible apply zA); (first | ((apply o_app); (case hx => exact rfl); (case hm => exact rfl); (case hy => exact .own rfl rfl); (case hty => exact rfl); (case hl => solve | exact hx1 | rfl); (case hcl => solve | rfl | exact hx1 | simp); (case hpos => omega); (case hb => omega); (case hb2 => omega); (case hnew => exact rfl)) | ((apply o_app); (case hx => exact rfl); (case hm => exact rfl); (case hy => exact .sl rfl); (case hty => exact rfl); (case hl => solve | exact hx1 | rfl); (case hcl => solve | rfl | exact hx1 | simp); (case hpos => omega); (case hb => omega); (case hb2 => omega); (case hnew => exact rfl)) | exact da)) | ((with_reducible apply zS); exact ds) | ((with_reducible apply zY); exact rfl; exact rfl; exact tf) | ((with_reducible apply zG); exact rfl; exact rfl; exact tf) | ((with_reducible apply zU); exact rfl; exact rfl) | ((with_reducible apply zD); exact rfl; exact rfl) | ((with_reducible apply zB); exact rfl; exact rfl))))
      refine wpl_turn (turns_pin 43 43 PN (by rfl) (by rfl) (by rfl) (by rfl) (by kernel_rfl)) fun y => ?_
      ((refine wpl_run (l1 := [_]) rfl ?_ ?_); exact kr; (repeat' (first | (with_reducible first | intro hg | refine mv (by constructor) ?_) | ((with_reducible first | refine zR ?_ ?_ | refine zW mixed ?_ ?_); exact kr) | ((with_reducible apply zK); exact rfl; exact tf) | ((with_reducible apply zCD); exact rfl) | ((with_reducible apply zCN); exact rfl) | ((with_reducible apply zC); exact rfl) | ((with_reducible refine zX ?_ ?_); exact rfl) | ((with_reducible refine zE (And.intro ?_ ?_)); exact kr) | (with_reducible refine zE ?_) | ((with_reducible apply zP); exact dp) | ((with_reducible apply zN); exact dn) | ((with_reducible apply zA); exact da) | ((with_reducible apply zS); exact ds) | ((with_reducible apply zY); exact rfl; exact rfl; exact tf) | ((with_reducible apply zG); exact rfl; exact rfl; exact tf) | ((with_reducible apply zU); exact rfl; exact rfl) | ((with_reducible apply zD); exact rfl; exact rfl) | ((with_reducible apply zB); exact rfl; exact rfl))))
      refine wpl_nil ?_
      obtain ⟨⟨b2, cap2⟩, hb1, hb2⟩ := y
      have hln : (x :: l ++ [v]).length = l.length + 1 + 1 := by simp
      (repeat' (first | (with_reducible first | intro hg | refine mv (by constructor) ?_) | ((with_reducible first | refine zR ?_ ?_ | refine zW mixed ?_ ?_); exact kr) | ((with_reducible apply zK); exact rfl; exact tf) | ((with_reducible apply zCD); exact rfl) | ((with_reducible apply zCN); exact rfl) | ((with_reducible apply zC); exact rfl) | ((with_reducible refine zX ?_ ?_); exact rfl) | ((with_reducible refine zE (And.intro ?_ ?_)); exact kr) | (with_reducible refine zE ?_) | ((with_reducible apply zP); exact dp) | ((with_reducible apply zN); exact dn) | ((with_reducible apply zA); exact da) | ((with_reducible apply zS); exact ds) | ((with_reducible apply zY); exact rfl; exact rfl; exact tf) | ((with_reducible apply zG); exact rfl; exact rfl; exact tf) | ((with_reducible apply zU); exact rfl; exact rfl) | ((with_reducible apply zD); exact rfl; exact rfl) | ((with_reducible apply zB); exact rfl; exact rfl)))
      refine ⟨trivial, (x :: l ++ [v], b2, cap2), ⟨hklt, hsn, .inr ⟨by rw [hln]; exact hb1, hb2⟩⟩, ?_⟩
      show AS.le _ (nbS _ (x :: (l ++ [v])) b2 cap2)
      unfold nbS
      rw [show (x :: (l ++ [v])).length = l.length + 1 + 1 from hln]
      exact le_of (And.intro rfl (And.intro rfl (And.intro rfl (And.intro rfl (And.intro rfl trivial))))) (And.intro rfl (And.intro rfl (And.intro rfl (And.intro rfl (And.intro (hbl) trivial)))))

end Go.Proofs.YtagpmpbmfjaiiaaGreatDoor
