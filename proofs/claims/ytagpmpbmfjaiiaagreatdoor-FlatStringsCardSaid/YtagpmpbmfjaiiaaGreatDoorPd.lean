/- The walk of the settings. -/
import Derived.Test.YtagpmpbmfjaiiaaGreatDoorPc
import Derived.Test.YtagpmpbmfjaiiaaGreatDoorPh
set_option linter.unusedVariables false
set_option linter.unusedSimpArgs false
namespace Go.Proofs.YtagpmpbmfjaiiaaGreatDoor
open Go.RowKit
set_option maxRecDepth 20000

/-- Actuators whose numbers are small. -/
def ActsOk (A : List Act3) : Prop := A.length ≤ 1000 ∧ ∀ a ∈ A, -1000000 ≤ a.lo ∧ a.lo ≤ 1000000 ∧ -1000000 ≤ a.hi ∧ a.hi ≤ 1000000
abbrev yas (A : List Act3) (L : List (List Int)) : List YA := L.map fun l => .sl 3 (ivs l) A.length 1
theorem act_mem {A : List Act3} {k : Nat} (h : k < A.length) : A.getD k a0 ∈ A := by
  rw [List.getD_eq_getElem?_getD, List.getElem?_eq_getElem h]; exact List.getElem_mem h

theorem yas_get {A : List Act3} {L : List (List Int)} {k : Nat} {N : List Int} (hk : k < L.length) (h : L.getD k [] = N) : (yas A L)[k]? = some (.sl 3 (ivs N) A.length 1) := by
  rw [List.getD_eq_getElem?_getD, List.getElem?_eq_getElem hk] at h
  rw [List.getElem?_map, List.getElem?_eq_getElem hk, show L[k] = N from h]
  rfl
theorem settings_A (T : List Int) (A : List Act3) (L : List (List Int)) (hc : ChainS A L) (hA : 0 < A.length) (hok : ActsOk A) : AY Tryz.prog 75 [rulV T A] [] (yas A L) true := by
  obtain ⟨hm, hb⟩ := hok
  refine ay_body Tryz.func75 rfl rfl (by kernel_rfl) fun w0 J sJ fz0 l hI => ?_
  show AWp _ (itF w0 J sJ fz0 _) _ (YRet _ _) (entryY _ _ _)
  (repeat' (first | (with_reducible first | intro hg | refine mv (by constructor) ?_) | ((with_reducible first | refine zR ?_ ?_ | refine zW mixed ?_ ?_); exact kr) | ((with_reducible apply zK); exact rfl; exact tf) | ((with_reducible apply zCD); exact rfl) | ((with_reducible apply zCN); exact rfl) | ((with_reducible apply zC); exact rfl) | ((with_reducible refine zX ?_ ?_); exact rfl) | ((with_reducible refine zE (And.intro ?_ ?_)); exact kr) | (with_reducible refine zE ?_) | ((with_reducible apply zP); exact dp) | ((with_reducible apply zN); exact dn) | ((with_reducible apply zA); exact da) | ((with_reducible apply zS); exact ds) | ((with_reducible apply zY); exact rfl; exact rfl; exact tf) | ((with_reducible apply zG); exact rfl; exact rfl; exact tf) | ((with_reducible apply zU); exact rfl; exact rfl) | ((with_reducible apply zD); exact rfl; exact rfl) | ((with_reducible apply zB); exact rfl; exact rfl)))
  have hyv : AS.ev (entryY [rulV T A] l []) (.tmp 1) = .d (.val (.func (.yield l) #[] #[])) := rfl
  refine awp_loopL (α := Nat × List Int) (fun x => [(1, .d (.val (.func (.yield l) #[] #[]))), (2, .ptr 2 0), (4, ownL 21 x.2), (10, .d (actS A)), (11, .d (I A.length)), (12, .d (I x.1)), (VG, cntV 0)]) (fun x => (2, ⟨116, rulC T A⟩) :: ownLM 21 3 x.2)
    (fun x => x.1 ≤ A.length ∧ x.2 = (A.take x.1).map Act3.lo) (fun x => A.length - x.1) (0, []) ⟨Nat.zero_le _, rfl⟩ (And.intro rfl (And.intro rfl (And.intro rfl (And.intro rfl (And.intro rfl (And.intro rfl (And.intro rfl trivial))))))) (And.intro rfl trivial) fun ⟨k, xs⟩ ⟨hk, hx⟩ => ?_
  have hx : xs = (A.take k).map Act3.lo := hx
  have hk : k ≤ A.length := hk
  by_cases hlt : k < A.length
  · have hb1 := hb _ (act_mem hlt)
    have hxs : xs ++ [(A.getD k a0).lo] = (A.take (k + 1)).map Act3.lo := by
      rw [hx, show A.take (k + 1) = A.take k ++ [A.getD k a0] by rw [List.take_add_one, List.getD_eq_getElem?_getD, List.getElem?_eq_getElem hlt]; rfl, List.map_append]; rfl
    have hxl : xs.length = k := by rw [hx]; simp; omega
    rcases xs with _ | ⟨x, xs⟩
    · (repeat' (first | (with_reducible first | intro hg | refine mv (by constructor) ?_) | ((with_reducible first | refine zR ?_ ?_ | refine zW mixed ?_ ?_); exact kr) | ((with_reducible apply zK); exact rfl; exact tf) | ((with_reducible apply zCD); exact rfl) | ((with_reducible apply zCN); exact rfl) | ((with_reducible apply zC); exact rfl) | ((with_reducible refine zX ?_ ?_); exact rfl) | ((with_reducible refine zE (And.intro ?_ ?_)); exact kr) | (with_reducible refine zE ?_) | ((with_reducible apply zP); (first | exact o_indexF a0 actC_len (by decide) rfl rfl (by omega) rfl | exact dp)) | ((with_reducible apply zN); exact dn) | ((with_reducible apply zA); exact da) | ((with_reducible apply zS); exact ds) | ((with_reducible apply zY); exact rfl; exact rfl; exact tf) | ((with_reducible apply zG); exact rfl; exact rfl; exact tf) | ((with_reducible apply zU); exact rfl; exact rfl) | ((with_reducible apply zD); exact rfl; exact rfl) | ((with_reducible apply zB); exact rfl; exact rfl)))
      exact ⟨(k + 1, [(A.getD k a0).lo]), ⟨hlt, hxs⟩, by show A.length - (k + 1) < A.length - k; omega, (And.intro rfl (And.intro rfl (And.intro rfl (And.intro rfl (And.intro rfl (And.intro rfl (And.intro rfl trivial))))))), (And.intro rfl (And.intro rfl trivial))⟩
    · (repeat' (first | (with_reducible first | intro hg | refine mv (by constructor) ?_) | ((with_reducible first | refine zR ?_ ?_ | refine zW mixed ?_ ?_); exact kr) | ((with_reducible apply zK); exact rfl; exact tf) | ((with_reducible apply zCD); exact rfl) | ((with_reducible apply zCN); exact rfl) | ((with_reducible apply zC); exact rfl) | ((with_reducible refine zX ?_ ?_); exact rfl) | ((with_reducible refine zE (And.intro ?_ ?_)); exact kr) | (with_reducible refine zE ?_) | ((with_reducible apply zP); (first | exact o_indexF a0 actC_len (by decide) rfl rfl (by omega) rfl | exact dp)) | ((with_reducible apply zN); exact dn) | ((with_reducible apply zA); exact da) | ((with_reducible apply zS); exact ds) | ((with_reducible apply zY); exact rfl; exact rfl; exact tf) | ((with_reducible apply zG); exact rfl; exact rfl; exact tf) | ((with_reducible apply zU); exact rfl; exact rfl) | ((with_reducible apply zD); exact rfl; exact rfl) | ((with_reducible apply zB); exact rfl; exact rfl)))
      exact ⟨(k + 1, x :: (xs ++ [(A.getD k a0).lo])), ⟨hlt, hxs⟩, by show A.length - (k + 1) < A.length - k; omega, (And.intro rfl (And.intro rfl (And.intro (ownL_snoc 21 x xs _) (And.intro (rfl) (And.intro (rfl) (And.intro (rfl) (And.intro (rfl) trivial))))))), (And.intro rfl (And.intro (blkL_snoc _ x xs _) trivial))⟩
  · have hkl : k = A.length := by omega
    have hxl : xs = L.getD 0 [] := by rw [hc.head, hx, hkl, List.take_length]
    have hxn : xs.length = A.length := by rw [hx, hkl]; simp
    rcases xs with _ | ⟨x, xs⟩
    · simp at hxn; omega
    (repeat' (first | (with_reducible first | intro hg | refine mv (by constructor) ?_) | ((with_reducible first | refine zR ?_ ?_ | refine zW mixed ?_ ?_); exact kr) | ((with_reducible apply zK); exact rfl; exact tf) | ((with_reducible apply zCD); exact rfl) | ((with_reducible apply zCN); exact rfl) | ((with_reducible apply zC); exact rfl) | ((with_reducible refine zX ?_ ?_); exact rfl) | ((with_reducible refine zE (And.intro ?_ ?_)); exact kr) | (with_reducible refine zE ?_) | ((with_reducible apply zP); exact dp) | ((with_reducible apply zN); exact dn) | ((with_reducible apply zA); exact da) | ((with_reducible apply zS); exact ds) | ((with_reducible apply zY); exact rfl; exact rfl; exact tf) | ((with_reducible apply zG); exact rfl; exact rfl; exact tf) | ((with_reducible apply zU); exact rfl; exact rfl) | ((with_reducible apply zD); exact rfl; exact rfl) | ((with_reducible apply zB); exact rfl; exact rfl)))
    refine awp_loopL (α := Nat) (fun k => [(1, .d (.val (.func (.yield l) #[] #[]))), (2, .ptr 2 0), (4, .lsl 21 0 A.length 1), (VG, cntV k)]) (fun k => [(2, ⟨116, rulC T A⟩), (21, ⟨3, ivs (L.getD k [])⟩)])
      (fun k => k < L.length) (fun k => L.length - k) 0 hc.pos (And.intro rfl (And.intro rfl (And.intro (by rw [← hxn]; rfl) (And.intro (rfl) trivial)))) (And.intro rfl (And.intro (by rw [← hxl]; rfl) trivial)) fun k hk => ?_
    have hlen := hc.len _ (show L.getD k [] ∈ L by rw [List.getD_eq_getElem?_getD, List.getElem?_eq_getElem hk]; exact List.getElem_mem hk)
    generalize hN : L.getD k [] = N at *
    (iterate 3 (first | (with_reducible first | intro hg | refine mv (by constructor) ?_) | ((with_reducible first | refine zR ?_ ?_ | refine zW mixed ?_ ?_); exact kr) | ((with_reducible apply zK); exact rfl; exact tf) | ((with_reducible apply zCD); exact rfl) | ((with_reducible apply zCN); exact rfl) | ((with_reducible apply zC); exact rfl) | ((with_reducible refine zX ?_ ?_); exact rfl) | ((with_reducible refine zE (And.intro ?_ ?_)); exact kr) | (with_reducible refine zE ?_) | ((with_reducible apply zP); exact dp) | ((with_reducible apply zN); exact dn) | ((with_reducible apply zA); exact da) | ((with_reducible apply zS); exact ds) | ((with_reducible apply zY); exact rfl; exact rfl; exact tf) | ((with_reducible apply zG); exact rfl; exact rfl; exact tf) | ((with_reducible apply zU); exact rfl; exact rfl) | ((with_reducible apply zD); exact rfl; exact rfl) | ((with_reducible apply zB); exact rfl; exact rfl)))
    refine awp_yield hI (pre := [_, _]) (post := [_]) (by rfl) (by kernel_rfl) k _ (yas_get hk hN) ?_
    (repeat' (first | (with_reducible first | intro hg | refine mv (by constructor) ?_) | ((with_reducible first | refine zR ?_ ?_ | refine zW mixed ?_ ?_); exact kr) | ((with_reducible apply zK); exact rfl; exact tf) | ((with_reducible apply zCD); exact rfl) | ((with_reducible apply zCN); exact rfl) | ((with_reducible apply zC); exact rfl) | ((with_reducible refine zX ?_ ?_); exact rfl) | ((with_reducible refine zE (And.intro ?_ ?_)); exact kr) | (with_reducible refine zE ?_) | ((with_reducible apply zP); exact dp) | ((with_reducible apply zN); exact dn) | ((with_reducible apply zA); exact da) | ((with_reducible apply zS); exact ds) | ((with_reducible apply zY); exact rfl; exact rfl; exact tf) | ((with_reducible apply zG); exact rfl; exact rfl; exact tf) | ((with_reducible apply zU); exact rfl; exact rfl) | ((with_reducible apply zD); exact rfl; exact rfl) | ((with_reducible apply zB); exact rfl; exact rfl)))
    refine ⟨rfl, .sl rfl rfl rfl (ivs_flat N), rfl, ?_, ?_⟩
    rotate_left
    · (repeat' (first | (with_reducible first | intro hg | refine mv (by constructor) ?_) | ((with_reducible first | refine zR ?_ ?_ | refine zW mixed ?_ ?_); exact kr) | ((with_reducible apply zK); exact rfl; exact tf) | ((with_reducible apply zCD); exact rfl) | ((with_reducible apply zCN); exact rfl) | ((with_reducible apply zC); exact rfl) | ((with_reducible refine zX ?_ ?_); exact rfl) | ((with_reducible refine zE (And.intro ?_ ?_)); exact kr) | (with_reducible refine zE ?_) | ((with_reducible apply zP); exact dp) | ((with_reducible apply zN); exact dn) | ((with_reducible apply zA); exact da) | ((with_reducible apply zS); exact ds) | ((with_reducible apply zY); exact rfl; exact rfl; exact tf) | ((with_reducible apply zG); exact rfl; exact rfl; exact tf) | ((with_reducible apply zU); exact rfl; exact rfl) | ((with_reducible apply zD); exact rfl; exact rfl) | ((with_reducible apply zB); exact rfl; exact rfl)))
      exact .inr ⟨_, rfl⟩
    (repeat' (first | (with_reducible first | intro hg | refine mv (by constructor) ?_) | ((with_reducible first | refine zR ?_ ?_ | refine zW mixed ?_ ?_); exact kr) | ((with_reducible apply zK); exact rfl; exact tf) | ((with_reducible apply zCD); exact rfl) | ((with_reducible apply zCN); exact rfl) | ((with_reducible apply zC); exact rfl) | ((with_reducible refine zX ?_ ?_); exact rfl) | ((with_reducible refine zE (And.intro ?_ ?_)); exact kr) | (with_reducible refine zE ?_) | ((with_reducible apply zP); exact dp) | ((with_reducible apply zN); exact dn) | ((with_reducible apply zA); exact da) | ((with_reducible apply zS); exact ds) | ((with_reducible apply zY); exact rfl; exact rfl; exact tf) | ((with_reducible apply zG); exact rfl; exact rfl; exact tf) | ((with_reducible apply zU); exact rfl; exact rfl) | ((with_reducible apply zD); exact rfl; exact rfl) | ((with_reducible apply zB); exact rfl; exact rfl)))
    have hsm := hc.small N (by rw [← hN, List.getD_eq_getElem?_getD, List.getElem?_eq_getElem hk]; exact List.getElem_mem hk)
    have hst : k + 1 < L.length → nextS A N = some (L.getD (k + 1) []) := fun h => by rw [← hN]; exact hc.step k h
    have hla : k + 1 = L.length → nextS A N = none := fun h => by have := hc.last; rw [← h, Nat.add_sub_cancel, hN] at this; exact this
    refine awp_loopL (α := Nat) (fun j => [(1, .d (.val (.func (.yield l) #[] #[]))), (2, .ptr 2 0), (4, .lsl 21 0 A.length 1), (7, .d (I (idxV j))), (VG, cntV (k + 1))]) (fun j => [(2, ⟨116, rulC T A⟩), (21, ⟨3, ivs (N.take j ++ (A.drop j).map Act3.lo)⟩)])
      (fun j => j ≤ A.length ∧ tops A N j) (fun j => j) A.length ⟨Nat.le_refl _, fun j h1 h2 => by omega⟩ (And.intro rfl (And.intro rfl (And.intro rfl (And.intro (congrArg (fun n => AV.d (I n)) (idxV_pred _)) (And.intro (rfl) trivial))))) (And.intro rfl (And.intro (by rw [List.take_of_length_le (by omega), List.drop_length]; simp; rfl) trivial)) fun j ⟨hj, ht⟩ => ?_
    rcases j with _ | i
    · have e0 : idxV 0 = -1 := rfl
      have hend : k + 1 = L.length := by
        rcases Nat.lt_or_ge (k + 1) L.length with h | h
        · rw [nextS_none A N hlen ht] at hst; exact absurd (hst h) (by simp)
        · omega
      (repeat' (first | (with_reducible first | intro hg | refine mv (by constructor) ?_) | ((with_reducible first | refine zR ?_ ?_ | refine zW mixed ?_ ?_); exact kr) | ((with_reducible apply zK); exact rfl; exact tf) | ((with_reducible apply zCD); exact rfl) | ((with_reducible apply zCN); exact rfl) | ((with_reducible apply zC); exact rfl) | ((with_reducible refine zX ?_ ?_); exact rfl) | ((with_reducible refine zE (And.intro ?_ ?_)); exact kr) | (with_reducible refine zE ?_) | ((with_reducible apply zP); exact dp) | ((with_reducible apply zN); exact dn) | ((with_reducible apply zA); exact da) | ((with_reducible apply zS); exact ds) | ((with_reducible apply zY); exact rfl; exact rfl; exact tf) | ((with_reducible apply zG); exact rfl; exact rfl; exact tf) | ((with_reducible apply zU); exact rfl; exact rfl) | ((with_reducible apply zD); exact rfl; exact rfl) | ((with_reducible apply zB); exact rfl; exact rfl)))
      exact .inl ⟨rfl, by show cntV (k + 1) = cntV (yas A L).length; rw [hend]; simp [yas]⟩
    · have e0 : idxV (i + 1) = i := rfl
      have hi : i < N.length := by omega
      have hia : i < A.length := by omega
      have hnm := nth_mid N ((A.drop (i + 1)).map Act3.lo) i hi
      have hsb := hsm _ (nth_mem hi)
      have hMl : (N.take (i + 1) ++ (A.drop (i + 1)).map Act3.lo).length = A.length := by simp; omega
      have hab := hb _ (act_mem hia)
      generalize hM : N.take (i + 1) ++ (A.drop (i + 1)).map Act3.lo = M at *
      (repeat' (first | (with_reducible first | intro hg | refine mv (by constructor) ?_) | ((with_reducible first | refine zR ?_ ?_ | refine zW mixed ?_ ?_); exact kr) | ((with_reducible apply zK); exact rfl; exact tf) | ((with_reducible apply zCD); exact rfl) | ((with_reducible apply zCN); exact rfl) | ((with_reducible apply zC); exact rfl) | ((with_reducible refine zX ?_ ?_); exact rfl) | ((with_reducible refine zE (And.intro ?_ ?_)); exact kr) | (with_reducible refine zE ?_) | ((with_reducible apply zP); (first | exact o_indexF a0 actC_len (by decide) rfl rfl (by omega) rfl | exact o_indexL (o := i) rfl rfl (by omega) (by omega) (by show 0 + ((i : Nat) : Int).toNat * 1 = i; simp) | exact dp)) | ((with_reducible apply zN); exact dn) | ((with_reducible apply zA); exact da) | ((with_reducible apply zS); (first | exact o_storeLI rfl rfl rfl (by omega) | exact ds)) | ((with_reducible apply zY); exact rfl; exact rfl; exact tf) | ((with_reducible apply zG); exact rfl; exact rfl; exact tf) | ((with_reducible apply zU); exact rfl; exact rfl) | ((with_reducible apply zD); exact rfl; exact rfl) | ((with_reducible apply zB); exact rfl; exact rfl)))
      · refine ⟨i, ⟨by omega, fun j h1 h2 => ?_⟩, by omega, (And.intro rfl (And.intro rfl (And.intro rfl (And.intro (congrArg (fun n => AV.d (I n)) (idxV_pred i)) (And.intro (rfl) trivial))))), (And.intro rfl (And.intro (congrArg (fun l => some (Blk.mk _ (ivs l))) (by rw [← hM, set_mid _ N _ i hi, drop_act hia])) trivial))⟩
        rcases Nat.lt_or_ge i j with h | h
        · exact ht j h h2
        · rw [show j = i by omega, ← hnm]; exact hg
      · have hnx := nextS_some A N i hlen hia ht (by rw [← hnm]; exact hg)
        have hk1 : k + 1 < L.length := by
          rcases Nat.lt_or_ge (k + 1) L.length with h | h
          · exact h
          · rw [hla (by omega)] at hnx; cases hnx
        have hLk := (hst hk1).symm.trans hnx
        injection hLk with hLk
        exact ⟨k + 1, hk1, by omega, (And.intro rfl (And.intro rfl (And.intro rfl (And.intro rfl trivial)))), (And.intro rfl (And.intro (congrArg (fun l => some (Blk.mk _ (ivs l))) (by rw [hLk, ← hM, set_mid _ N _ i hi, hM, hnm])) trivial))⟩

end Go.Proofs.YtagpmpbmfjaiiaaGreatDoor
