/- Strings of flat rolls: lists of numbers read, by the reference. -/
import Derived.Test.YtagpmpbmfjaiiaaGreatDoorNh
import Derived.Test.YtagpmpbmfjaiiaaGreatDoorNy
set_option linter.unusedVariables false
set_option linter.unusedSimpArgs false
namespace Go.Proofs.YtagpmpbmfjaiiaaGreatDoor
open Go.RowKit
set_option maxRecDepth 20000
set_option maxHeartbeats 4000000

theorem numN_pos {p : List UInt8} {D : Nat} {v : Int} (h : numN p D = some v) : 0 < p.length := Nat.pos_of_ne_zero fun e => by
  obtain rfl := List.length_eq_zero_iff.1 e
  unfold numN at h
  simp at h
theorem numN_i64 {p : List UInt8} {v : Int} (h : numN p 6 = some v) : I64 v := (numN_itoa (by decide) h).1
theorem numS_no {sg : Bool} {p : List UInt8} {D : Nat} (h : numN p D = none) : numS sg D p = none := by
  unfold numS; rw [h]; split <;> rfl
theorem parL_none {sg : Bool} {D : Nat} {s : List UInt8} {i : Nat} (hi : i < (cutA 32 [] s).length) (h : numS sg D ((cutA 32 [] s).getD i []) = none) : parL sg D s = none := by
  refine numsL_none sg D _ _ ?_ h
  rw [List.getD_eq_getElem?_getD, List.getElem?_eq_getElem hi]
  exact List.getElem_mem hi
theorem kparse_A (sg : Bool) (s : List UInt8) (hs : s.length ≤ 1000000) (res : DV) (h0 : parL sg 6 s = none → res = .tuple [nilV, B false]) (h1 : ∀ l, parL sg 6 s = some l → res = .tuple [isl l, B true]) :
    AC Tryz.prog 60 [T8 s, B sg] res := by
  have hc : AC Tryz.prog 59 [T8 s, .val (.int .u8 32)] (tsl (cutA 32 [] s)) := cut_A s 32 hs
  have hlen := cutA_len 32 s []
  have hmem := cutA_mem 32 s []
  have hno := fun i hi h => h0 (parL_none (sg := sg) (D := 6) (s := s) (i := i) hi h)
  have hyes : ∀ l, numsL sg 6 (cutA 32 [] s) = some l → res = .tuple [isl l, B true] := h1
  clear h0 h1
  generalize cutA 32 [] s = ps at *
  simp only [List.length_nil, Nat.zero_add] at hmem
  refine ac_body Tryz.func60 rfl (by kernel_rfl) fun w0 ok => ?_; show AWp _ (ctx0 w0 ok _) _ (ARet _ _ _) (entry _)
  (repeat' (first | (with_reducible first | intro hg | refine mv (by constructor) ?_) | ((with_reducible first | refine zR ?_ ?_ | refine zW mixed ?_ ?_); exact kr) | ((with_reducible apply zK); exact rfl; exact tf) | ((with_reducible apply zCD); exact rfl) | ((with_reducible apply zCN); exact rfl) | ((with_reducible apply zC); exact rfl) | ((with_reducible refine zX ?_ ?_); exact rfl) | ((with_reducible refine zE (And.intro ?_ ?_)); exact kr) | (with_reducible refine zE ?_) | ((with_reducible apply zP); (first | exact dp | exact oc rfl (hc))) | ((with_reducible apply zN); exact dn) | ((with_reducible apply zA); exact da) | ((with_reducible apply zS); exact ds) | ((with_reducible apply zY); exact rfl; exact rfl; exact tf) | ((with_reducible apply zG); exact rfl; exact rfl; exact tf) | ((with_reducible apply zU); exact rfl; exact rfl) | ((with_reducible apply zD); exact rfl; exact rfl) | ((with_reducible apply zB); exact rfl; exact rfl)))
  clear hc
  refine awp_loopL (α := List Int) (fun l => [(1, .d (B sg)), (6, .d (tsl ps)), (7, ownL 44 l), (8, .d (I l.length))]) (fun l => ownLM 44 3 l)
    (fun l => l.length ≤ ps.length ∧ numsL sg 6 (ps.take l.length) = some l) (fun l => ps.length - l.length) [] ⟨Nat.zero_le _, rfl⟩ (And.intro rfl (And.intro rfl (And.intro rfl (And.intro rfl trivial)))) trivial fun l ⟨hl, hn⟩ => ?_
  by_cases hlt : l.length < ps.length
  rotate_left
  · have he : l.length = ps.length := by omega
    rw [he, List.take_length] at hn
    obtain rfl := hyes l hn
    clear hno hyes hmem hn
    refine awp_ownL 7 44 (t := 3) l rfl (fun x k hx => by subst hx; rfl) ?_
    (repeat' (first | (with_reducible first | intro hg | refine mv (by constructor) ?_) | ((with_reducible first | refine zR ?_ ?_ | refine zW mixed ?_ ?_); exact kr) | ((with_reducible apply zK); exact rfl; exact tf) | ((with_reducible apply zCD); exact rfl) | ((with_reducible apply zCN); exact rfl) | ((with_reducible apply zC); exact rfl) | ((with_reducible refine zX ?_ ?_); exact rfl) | ((with_reducible refine zE (And.intro ?_ ?_)); exact kr) | (with_reducible refine zE ?_) | ((with_reducible apply zP); exact dp) | ((with_reducible apply zN); exact dn) | ((with_reducible apply zA); exact da) | ((with_reducible apply zS); exact ds) | ((with_reducible apply zY); exact rfl; exact rfl; exact tf) | ((with_reducible apply zG); exact rfl; exact rfl; exact tf) | ((with_reducible apply zU); exact rfl; exact rfl) | ((with_reducible apply zD); exact rfl; exact rfl) | ((with_reducible apply zB); exact rfl; exact rfl)))
    ((with_reducible first | apply q_retR | apply q_retN); exact rl)
    rfl
  have hpm : ps.getD l.length [] ∈ ps := by
    rw [List.getD_eq_getElem?_getD, List.getElem?_eq_getElem hlt]
    exact List.getElem_mem hlt
  have hpl := hmem _ hpm
  have htk : ps.take (l.length + 1) = ps.take l.length ++ [ps.getD l.length []] := by
    rw [List.take_add_one, List.getD_eq_getElem?_getD, List.getElem?_eq_getElem hlt]; rfl
  have hsn := numsL_snoc sg 6 (ps.getD l.length []) _ l hn
  rw [← htk] at hsn
  have hno := hno l.length hlt
  have hN := number_A (ps.getD l.length []) 6 (by decide) (by omega)
  obtain ⟨p, hp⟩ : ∃ p, ps.getD l.length [] = p := ⟨_, rfl⟩
  rw [hp] at hno hN hsn hpl
  have hget : ((ps.map T8).drop l.length)[0]? = some (T8 p) := by rw [get_map [] hlt, hp]
  clear hpm hmem hyes hn htk
  cases hv : numN p 6 with
  | none =>
    obtain rfl := hno (numS_no hv)
    rw [hv] at hN
    have hN : AC Tryz.prog 101 [T8 p, I 6] (.tuple [I 0, B false]) := hN
    clear hno hsn
    (repeat' (first | (with_reducible first | intro hg | refine mv (by constructor) ?_) | ((with_reducible first | refine zR ?_ ?_ | refine zW mixed ?_ ?_); exact kr) | ((with_reducible apply zK); exact rfl; exact tf) | ((with_reducible apply zCD); exact rfl) | ((with_reducible apply zCN); exact rfl) | ((with_reducible apply zC); exact rfl) | ((with_reducible refine zX ?_ ?_); exact rfl) | ((with_reducible refine zE (And.intro ?_ ?_)); exact kr) | (with_reducible refine zE ?_) | ((with_reducible apply zP); (first | exact o_indexI (xs := ps) (f := T8) rfl rfl hlt rfl | exact o_loadR1 rfl hget | exact dp | exact oc rfl (hN))) | ((with_reducible apply zN); exact dn) | ((with_reducible apply zA); exact da) | ((with_reducible apply zS); exact ds) | ((with_reducible apply zY); exact rfl; exact rfl; exact tf) | ((with_reducible apply zG); exact rfl; exact rfl; exact tf) | ((with_reducible apply zU); exact rfl; exact rfl) | ((with_reducible apply zD); exact rfl; exact rfl) | ((with_reducible apply zB); exact rfl; exact rfl)))
    ((with_reducible first | apply q_retR | apply q_retN); exact rl)
    rfl
  | some v =>
    have h0 := numN_pos hv
    have hvi := numN_i64 hv
    rw [hv] at hN
    have hN : AC Tryz.prog 101 [T8 p, I 6] (.tuple [I v, B true]) := hN
    have hS : (sg = true ∨ ¬ p.getD 0 0 = 45) → numsL sg 6 (ps.take (l.length + 1)) = some (l ++ [v]) := fun h => by
      have : numS sg 6 p = some v := by
        unfold numS
        rw [head_getD h0]
        rcases h with rfl | h
        · exact hv
        · rw [decide_eq_false (fun e => h (Option.some.inj e)), Bool.and_false]; exact hv
      rw [hsn, this]; rfl
    cases sg
    · by_cases hx : p.getD 0 0 = 45
      · obtain rfl := hno (by unfold numS; rw [head_getD h0, hx]; rfl)
        have hd : ((p.getD 0 0).toNat : Int) = 45 := by rw [hx]; rfl
        clear hno hsn hS hx hv
        (repeat' (first | (with_reducible first | intro hg | refine mv (by constructor) ?_) | ((with_reducible first | refine zR ?_ ?_ | refine zW mixed ?_ ?_); exact kr) | ((with_reducible apply zK); exact rfl; exact tf) | ((with_reducible apply zCD); exact rfl) | ((with_reducible apply zCN); exact rfl) | ((with_reducible apply zC); exact rfl) | ((with_reducible refine zX ?_ ?_); exact rfl) | ((with_reducible refine zE (And.intro ?_ ?_)); exact kr) | (with_reducible refine zE ?_) | ((with_reducible apply zP); (first | exact o_indexI (xs := ps) (f := T8) rfl rfl hlt rfl | exact o_loadR1 rfl hget | exact o_indexT8 (i := 0) rfl rfl h0 | exact dp | exact oc rfl (hN))) | ((with_reducible apply zN); exact dn) | ((with_reducible apply zA); exact da) | ((with_reducible apply zS); exact ds) | ((with_reducible apply zY); exact rfl; exact rfl; exact tf) | ((with_reducible apply zG); exact rfl; exact rfl; exact tf) | ((with_reducible apply zU); exact rfl; exact rfl) | ((with_reducible apply zD); exact rfl; exact rfl) | ((with_reducible apply zB); exact rfl; exact rfl)))
        ((with_reducible first | apply q_retR | apply q_retN); exact rl)
        rfl
      · have hd : ¬ ((p.getD 0 0).toNat : Int) = 45 := fun e => hx (u8_ext (by have : (45 : UInt8).toNat = 45 := rfl; omega))
        have hS := hS (.inr hx)
        clear hno hsn hx hv
        rcases l with _ | ⟨x, l⟩
        · (repeat' (first | (with_reducible first | intro hg | refine mv (by constructor) ?_) | ((with_reducible first | refine zR ?_ ?_ | refine zW mixed ?_ ?_); exact kr) | ((with_reducible apply zK); exact rfl; exact tf) | ((with_reducible apply zCD); exact rfl) | ((with_reducible apply zCN); exact rfl) | ((with_reducible apply zC); exact rfl) | ((with_reducible refine zX ?_ ?_); exact rfl) | ((with_reducible refine zE (And.intro ?_ ?_)); exact kr) | (with_reducible refine zE ?_) | ((with_reducible apply zP); (first | exact o_indexI (xs := ps) (f := T8) rfl rfl hlt rfl | exact o_loadR1 rfl hget | exact o_indexT8 (i := 0) rfl rfl h0 | exact dp | exact oc rfl (hN))) | ((with_reducible apply zN); exact dn) | ((with_reducible apply zA); exact da) | ((with_reducible apply zS); exact ds) | ((with_reducible apply zY); exact rfl; exact rfl; exact tf) | ((with_reducible apply zG); exact rfl; exact rfl; exact tf) | ((with_reducible apply zU); exact rfl; exact rfl) | ((with_reducible apply zD); exact rfl; exact rfl) | ((with_reducible apply zB); exact rfl; exact rfl)))
          exact ⟨[v], ⟨hlt, hS⟩, by show ps.length - 1 < ps.length - 0; simp at hlt; omega, (And.intro rfl (And.intro rfl (And.intro rfl (And.intro rfl trivial)))), (And.intro rfl trivial)⟩
        · have hln : AV.d (I (((x :: l).length : Int) + 1)) = AV.d (I ((x :: (l ++ [v])).length : Nat)) := congrArg (fun z => AV.d (I z)) (by simp)
          (repeat' (first | (with_reducible first | intro hg | refine mv (by constructor) ?_) | ((with_reducible first | refine zR ?_ ?_ | refine zW mixed ?_ ?_); exact kr) | ((with_reducible apply zK); exact rfl; exact tf) | ((with_reducible apply zCD); exact rfl) | ((with_reducible apply zCN); exact rfl) | ((with_reducible apply zC); exact rfl) | ((with_reducible refine zX ?_ ?_); exact rfl) | ((with_reducible refine zE (And.intro ?_ ?_)); exact kr) | (with_reducible refine zE ?_) | ((with_reducible apply zP); (first | exact o_indexI (xs := ps) (f := T8) rfl rfl hlt rfl | exact o_loadR1 rfl hget | exact o_indexT8 (i := 0) rfl rfl h0 | exact dp | exact oc rfl (hN))) | ((with_reducible apply zN); exact dn) | ((with_reducible apply zA); exact da) | ((with_reducible apply zS); exact ds) | ((with_reducible apply zY); exact rfl; exact rfl; exact tf) | ((with_reducible apply zG); exact rfl; exact rfl; exact tf) | ((with_reducible apply zU); exact rfl; exact rfl) | ((with_reducible apply zD); exact rfl; exact rfl) | ((with_reducible apply zB); exact rfl; exact rfl)))
          exact ⟨x :: (l ++ [v]), ⟨by simp at hlt ⊢; omega, by simpa using hS⟩, by simp at hlt ⊢; omega, (And.intro rfl (And.intro rfl (And.intro (ownL_snoc 44 x l v) (And.intro (hln) trivial)))), (And.intro (blkL_snoc _ x l v) trivial)⟩
    · have hS := hS (.inl rfl)
      clear hno hsn hv
      rcases l with _ | ⟨x, l⟩
      · (repeat' (first | (with_reducible first | intro hg | refine mv (by constructor) ?_) | ((with_reducible first | refine zR ?_ ?_ | refine zW mixed ?_ ?_); exact kr) | ((with_reducible apply zK); exact rfl; exact tf) | ((with_reducible apply zCD); exact rfl) | ((with_reducible apply zCN); exact rfl) | ((with_reducible apply zC); exact rfl) | ((with_reducible refine zX ?_ ?_); exact rfl) | ((with_reducible refine zE (And.intro ?_ ?_)); exact kr) | (with_reducible refine zE ?_) | ((with_reducible apply zP); (first | exact o_indexI (xs := ps) (f := T8) rfl rfl hlt rfl | exact o_loadR1 rfl hget | exact dp | exact oc rfl (hN))) | ((with_reducible apply zN); exact dn) | ((with_reducible apply zA); exact da) | ((with_reducible apply zS); exact ds) | ((with_reducible apply zY); exact rfl; exact rfl; exact tf) | ((with_reducible apply zG); exact rfl; exact rfl; exact tf) | ((with_reducible apply zU); exact rfl; exact rfl) | ((with_reducible apply zD); exact rfl; exact rfl) | ((with_reducible apply zB); exact rfl; exact rfl)))
        exact ⟨[v], ⟨hlt, hS⟩, by show ps.length - 1 < ps.length - 0; simp at hlt; omega, (And.intro rfl (And.intro rfl (And.intro rfl (And.intro rfl trivial)))), (And.intro rfl trivial)⟩
      · have hln : AV.d (I (((x :: l).length : Int) + 1)) = AV.d (I ((x :: (l ++ [v])).length : Nat)) := congrArg (fun z => AV.d (I z)) (by simp)
        (repeat' (first | (with_reducible first | intro hg | refine mv (by constructor) ?_) | ((with_reducible first | refine zR ?_ ?_ | refine zW mixed ?_ ?_); exact kr) | ((with_reducible apply zK); exact rfl; exact tf) | ((with_reducible apply zCD); exact rfl) | ((with_reducible apply zCN); exact rfl) | ((with_reducible apply zC); exact rfl) | ((with_reducible refine zX ?_ ?_); exact rfl) | ((with_reducible refine zE (And.intro ?_ ?_)); exact kr) | (with_reducible refine zE ?_) | ((with_reducible apply zP); (first | exact o_indexI (xs := ps) (f := T8) rfl rfl hlt rfl | exact o_loadR1 rfl hget | exact dp | exact oc rfl (hN))) | ((with_reducible apply zN); exact dn) | ((with_reducible apply zA); exact da) | ((with_reducible apply zS); exact ds) | ((with_reducible apply zY); exact rfl; exact rfl; exact tf) | ((with_reducible apply zG); exact rfl; exact rfl; exact tf) | ((with_reducible apply zU); exact rfl; exact rfl) | ((with_reducible apply zD); exact rfl; exact rfl) | ((with_reducible apply zB); exact rfl; exact rfl)))
        exact ⟨x :: (l ++ [v]), ⟨by simp at hlt ⊢; omega, by simpa using hS⟩, by simp at hlt ⊢; omega, (And.intro rfl (And.intro rfl (And.intro (ownL_snoc 44 x l v) (And.intro (hln) trivial)))), (And.intro (blkL_snoc _ x l v) trivial)⟩

end Go.Proofs.YtagpmpbmfjaiiaaGreatDoor
