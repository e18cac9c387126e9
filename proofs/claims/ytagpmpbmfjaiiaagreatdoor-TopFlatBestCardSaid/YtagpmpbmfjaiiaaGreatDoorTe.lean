/- All settings, by the reference; the best ones. -/
import Derived.Test.YtagpmpbmfjaiiaaGreatDoorPy
import Derived.Test.YtagpmpbmfjaiiaaGreatDoorPq
set_option linter.unusedVariables false
set_option linter.unusedSimpArgs false
namespace Go.Proofs.YtagpmpbmfjaiiaaGreatDoor
open Go.RowKit
set_option maxRecDepth 20000
set_option maxHeartbeats 8000000

abbrev slC (L : List (List Int)) : List DV := L.map isl
abbrev slV (L : List (List Int)) : DV := .slice L.length (slC L)
theorem slC_len (L : List (List Int)) : (slC L).length = L.length * 1 := by simp
/-- Some settings, with one more number each. -/
def ext (a : Act3) (l : List Int) : Nat → List (List Int)
  | 0 => []
  | j + 1 => ext a l j ++ [l ++ [a.lo + j]]
theorem ext_len (a : Act3) (l : List Int) : ∀ j, (ext a l j).length = j
  | 0 => rfl
  | j + 1 => by unfold ext; rw [List.length_append, ext_len a l j]; rfl
def extTo (a : Act3) (L : List (List Int)) : Nat → List (List Int)
  | 0 => []
  | k + 1 => extTo a L k ++ ext a (L.getD k []) (cntA a)
theorem extTo_len (a : Act3) (L : List (List Int)) : ∀ k, (extTo a L k).length = k * cntA a
  | 0 => by simp [extTo]
  | k + 1 => by unfold extTo; rw [List.length_append, extTo_len a L k, ext_len, Nat.add_mul, Nat.one_mul]
def allTo (A : List Act3) : Nat → List (List Int)
  | 0 => [[]]
  | i + 1 => extTo (A.getD i a0) (allTo A i) (allTo A i).length
theorem cntA_le {T : List Int} {A : List Act3} (h : RulOk T A) {i : Nat} (hi : i < A.length) : cntA (A.getD i a0) ≤ 21 := by
  have := h.b _ (act_mem hi)
  unfold cntA; omega
theorem allTo_len {T : List Int} {A : List Act3} (h : RulOk T A) : ∀ i, i ≤ A.length → (allTo A i).length ≤ 21 ^ i
  | 0, _ => by simp [allTo]
  | i + 1, hi => by
    have h1 := allTo_len h i (by omega)
    have h2 := cntA_le h (i := i) (by omega)
    unfold allTo
    rw [extTo_len, Nat.pow_succ]
    exact Nat.mul_le_mul h1 h2
theorem extTo_mem {a : Act3} {L : List (List Int)} {n : Nat} (h : ∀ l ∈ L, l.length = n) : ∀ k, k ≤ L.length → ∀ l ∈ extTo a L k, l.length = n + 1
  | 0, _, l, hl => by simp [extTo] at hl
  | k + 1, hk, l, hl => by
    unfold extTo at hl
    rcases List.mem_append.1 hl with hl | hl
    · exact extTo_mem h k (by omega) l hl
    · have hm : L.getD k [] ∈ L := by rw [List.getD_eq_getElem?_getD, List.getElem?_eq_getElem (by omega)]; exact List.getElem_mem _
      have hn := h _ hm
      have : ∀ j, ∀ l ∈ ext a (L.getD k []) j, l.length = n + 1 := fun j => by
        induction j with
        | zero => intro l hl; simp [ext] at hl
        | succ j ih =>
          intro l hl
          unfold ext at hl
          rcases List.mem_append.1 hl with hl | hl
          · exact ih l hl
          · rw [List.mem_singleton.1 hl, List.length_append, hn]; rfl
      exact this _ l hl
theorem allTo_mem (A : List Act3) : ∀ i, i ≤ A.length → ∀ l ∈ allTo A i, l.length = i
  | 0, _, l, hl => by simp [allTo] at hl; rw [hl]; rfl
  | i + 1, hi, l, hl => extTo_mem (allTo_mem A i (by omega)) _ (Nat.le_refl _) l hl
/-! It is the list of all settings in lexicographic order. -/
theorem ext_eq (a : Act3) (l : List Int) (R : List (List Int)) : ∀ j, (ext a l j).flatMap (fun m => R.map (m ++ ·)) = (upTo (fun x => R.map (x :: ·)) a.lo j).map (l ++ ·) := by
  have up_snoc : ∀ (f : Int → List (List Int)) (j : Nat) (x : Int), upTo f x (j + 1) = upTo f x j ++ f (x + j) := fun f j => by
    induction j with
    | zero => intro x; simp [upTo]
    | succ j ih =>
      intro x
      rw [show upTo f x (j + 1 + 1) = f x ++ upTo f (x + 1) (j + 1) from rfl, ih (x + 1), show upTo f x (j + 1) = f x ++ upTo f (x + 1) j from rfl, List.append_assoc]
      congr 3; omega
  intro j
  induction j with
  | zero => rfl
  | succ j ih =>
    rw [up_snoc, List.map_append, ← ih]
    show (ext a l j ++ [l ++ [a.lo + j]]).flatMap _ = _
    rw [List.flatMap_append]
    simp [List.map_map, Function.comp_def]
theorem extTo_eq (a : Act3) (L : List (List Int)) (R : List (List Int)) : ∀ k, k ≤ L.length → (extTo a L k).flatMap (fun m => R.map (m ++ ·)) = (L.take k).flatMap (fun l => (upTo (fun x => R.map (x :: ·)) a.lo (cntA a)).map (l ++ ·))
  | 0, _ => rfl
  | k + 1, hk => by
    unfold extTo
    rw [List.flatMap_append, extTo_eq a L R k (by omega), ext_eq, List.take_add_one, List.getElem?_eq_getElem (by omega), List.flatMap_append, List.getD_eq_getElem?_getD, List.getElem?_eq_getElem (by omega)]
    simp
theorem allTo_eq (A : List Act3) : ∀ i, i ≤ A.length → (allTo A i).flatMap (fun m => (allS (A.drop i)).map (m ++ ·)) = allS A
  | 0, _ => by simp [allTo]
  | i + 1, hi => by
    rw [← allTo_eq A i (by omega)]
    show (extTo (A.getD i a0) (allTo A i) (allTo A i).length).flatMap _ = _
    rw [extTo_eq _ _ _ _ (Nat.le_refl _), List.take_length, drop_getA (by omega : i < A.length)]
    rfl
theorem allTo_all (A : List Act3) : allTo A A.length = allS A := by
  have h := allTo_eq A A.length (Nat.le_refl _)
  rw [List.drop_length] at h
  rw [← h]
  simp [allS]

theorem copyIntsO_A (xs : List Int) (hm : xs.length ≤ 1000000) : ACo Tryz.prog 12 [isl xs] 3 xs.length 1 (ivs xs) := by
  suffices h : ACo Tryz.prog 12 [isl xs] 3 (0 + xs.length) 1 (ivs xs) by rwa [Nat.zero_add] at h
  by_cases hne : xs = []
  · subst hne
    refine aco_body Tryz.func12 rfl (by kernel_rfl) fun w0 ok => ?_; show AWp _ (ctx0 w0 ok _) _ (ARetO _ _ _ _ _) (entry _)
    (repeat' (first | (with_reducible first | intro hg | refine mv (by constructor) ?_) | ((with_reducible first | refine zR ?_ ?_ | refine zW mixed ?_ ?_); exact kr) | ((with_reducible apply zK); exact rfl; exact tf) | ((with_reducible apply zCD); exact rfl) | ((with_reducible apply zCN); exact rfl) | ((with_reducible apply zC); exact rfl) | ((with_reducible refine zX ?_ ?_); exact rfl) | ((with_reducible refine zE (And.intro ?_ ?_)); exact kr) | (with_reducible refine zE ?_) | ((with_reducible apply zP); exact dp) | ((with_reducible apply zN); exact dn) | ((with_reducible apply zA); exact da) | ((with_reducible apply zS); exact ds) | ((with_reducible apply zY); exact rfl; exact rfl; exact tf) | ((with_reducible apply zG); exact rfl; exact rfl; exact tf) | ((with_reducible apply zU); exact rfl; exact rfl) | ((with_reducible apply zD); exact rfl; exact rfl) | ((with_reducible apply zB); exact rfl; exact rfl)))
    ((with_reducible first | apply q_retO | apply q_retON); exact rfl; exact rfl; exact rfl)
  · have hne2 := ivs_ne hne
    have hpos : 0 < xs.length := List.length_pos_iff.2 hne
    refine aco_body Tryz.func12 rfl (by kernel_rfl) fun w0 ok => ?_; show AWp _ (ctx0 w0 ok _) _ (ARetO _ _ _ _ _) (entry _)
    (repeat' (first | (with_reducible first | intro hg | refine mv (by constructor) ?_) | ((with_reducible first | refine zR ?_ ?_ | refine zW mixed ?_ ?_); exact kr) | ((with_reducible apply zK); exact rfl; exact tf) | ((with_reducible apply zCD); exact rfl) | ((with_reducible apply zCN); exact rfl) | ((with_reducible apply zC); exact rfl) | ((with_reducible refine zX ?_ ?_); exact rfl) | ((with_reducible refine zE (And.intro ?_ ?_)); exact kr) | (with_reducible refine zE ?_) | ((with_reducible apply zP); exact dp) | ((with_reducible apply zN); exact dn) | ((with_reducible apply zA); exact da) | ((with_reducible apply zS); exact ds) | ((with_reducible apply zY); exact rfl; exact rfl; exact tf) | ((with_reducible apply zG); exact rfl; exact rfl; exact tf) | ((with_reducible apply zU); exact rfl; exact rfl) | ((with_reducible apply zD); exact rfl; exact rfl) | ((with_reducible apply zB); exact rfl; exact rfl)))
    ((with_reducible first | apply q_retO | apply q_retON); exact rfl; exact rfl; exact rfl)
section
variable {P : Program} {s : AS} {dst : Option Tmp} {ty : TypeId} {ps : String} {af : Array Edge} {t : TypeId} {x y : Operand}
/-- An item of a slice whose items have one cell each. -/
theorem o_loadM {α : Type} (d : α) {n : Nat} {xs : List α} {f : α → DV} {j : Nat} [h : TyI P t false n] (hx : s.ev x = .d (.ref ((xs.map f).drop j))) (hj : j < xs.length) (gd : Option (Nat × Bool)) : Does P ⟨dst, .load t x, ty, ps, af, gd⟩ s [] (.put (.d (f (xs.getD j d)))) :=
  does_loadR hx (.one h.eq (get_map d hj))
end
theorem leM_own {s : AS} {nm : Nat} {t : TypeId} {cs : List DV} {n : Nat} (h : ∀ k, n = k + 1 → s.mem nm = some ⟨t, cs⟩) : leM s (ownM nm t cs n) := by
  cases n with
  | zero => trivial
  | succ k => exact ⟨h k rfl, trivial⟩
theorem slC_snoc (M : List (List Int)) (l : List Int) (n : Int) : slC M ++ [DV.slice (l.length + 1) (((ivs l ++ [I n]).drop 0).take ((l.length + 1) * 1))] = slC (M ++ [l ++ [n]]) := by
  rw [List.drop_zero, Nat.mul_one, List.take_of_length_le (by simp)]; simp [slC]
theorem refAll_A (T : List Int) (A : List Act3) (h : RulOk T A) : AC Tryz.prog 44 [rulV T A] (slV (allS A)) := by
  rw [← allTo_all]
  have ha3 := h.a3
  refine ac_body Tryz.func44 rfl (by kernel_rfl) fun w0 ok => ?_; show AWp _ (ctx0 w0 ok _) _ (ARet _ _ _) (entry _)
  (repeat' (first | (with_reducible first | intro hg | refine mv (by constructor) ?_) | ((with_reducible first | refine zR ?_ ?_ | refine zW mixed ?_ ?_); exact kr) | ((with_reducible apply zK); exact rfl; exact tf) | ((with_reducible apply zCD); exact rfl) | ((with_reducible apply zCN); exact rfl) | ((with_reducible apply zC); exact rfl) | ((with_reducible refine zX ?_ ?_); exact rfl) | ((with_reducible refine zE (And.intro ?_ ?_)); exact kr) | (with_reducible refine zE ?_) | ((with_reducible apply zP); exact dp) | ((with_reducible apply zN); exact dn) | ((with_reducible apply zA); exact da) | ((with_reducible apply zS); exact ds) | ((with_reducible apply zY); exact rfl; exact rfl; exact tf) | ((with_reducible apply zG); exact rfl; exact rfl; exact tf) | ((with_reducible apply zU); exact rfl; exact rfl) | ((with_reducible apply zD); exact rfl; exact rfl) | ((with_reducible apply zB); exact rfl; exact rfl)))
  refine awp_turn (turns_nilC 8 0 (by rfl) (by rfl)) fun _ => ?_
  refine awp_freeze 8 rfl ?_
  refine awp_loopL (α := Nat) (fun i => [(1, .ptr 1 0), (3, .d (slV (allTo A i))), (4, .d (I i))]) (fun _ => [(1, ⟨25, rulC T A⟩)]) (fun i => i ≤ A.length) (fun i => A.length - i) 0 (Nat.zero_le _) (And.intro rfl (And.intro rfl (And.intro rfl trivial))) (And.intro rfl trivial) fun i hi => ?_
  have hL := allTo_len h i hi
  have hm := allTo_mem A i hi
  have hst : allTo A (i + 1) = extTo (A.getD i a0) (allTo A i) (allTo A i).length := rfl
  generalize hgen : allTo A i = L at *
  by_cases hlt : i < A.length
  rotate_left
  · obtain rfl : i = A.length := by omega
    (repeat' (first | (with_reducible first | intro hg | refine mv (by constructor) ?_) | ((with_reducible first | refine zR ?_ ?_ | refine zW mixed ?_ ?_); exact kr) | ((with_reducible apply zK); exact rfl; exact tf) | ((with_reducible apply zCD); exact rfl) | ((with_reducible apply zCN); exact rfl) | ((with_reducible apply zC); exact rfl) | ((with_reducible refine zX ?_ ?_); exact rfl) | ((with_reducible refine zE (And.intro ?_ ?_)); exact kr) | (with_reducible refine zE ?_) | ((with_reducible apply zP); exact dp) | ((with_reducible apply zN); exact dn) | ((with_reducible apply zA); exact da) | ((with_reducible apply zS); exact ds) | ((with_reducible apply zY); exact rfl; exact rfl; exact tf) | ((with_reducible apply zG); exact rfl; exact rfl; exact tf) | ((with_reducible apply zU); exact rfl; exact rfl) | ((with_reducible apply zD); exact rfl; exact rfl) | ((with_reducible apply zB); exact rfl; exact rfl)))
    ((with_reducible first | apply q_retR | apply q_retN); exact rl)
    rw [hgen]; rfl
  have h21 : 21 ^ i ≤ 21 ^ 2 := Nat.pow_le_pow_right (by decide) (by omega)
  have hL : L.length ≤ 441 := Nat.le_trans hL h21
  have hab := h.b _ (act_mem hlt)
  have hcn := cntA_le h hlt
  (repeat' (first | (with_reducible first | intro hg | refine mv (by constructor) ?_) | ((with_reducible first | refine zR ?_ ?_ | refine zW mixed ?_ ?_); exact kr) | ((with_reducible apply zK); exact rfl; exact tf) | ((with_reducible apply zCD); exact rfl) | ((with_reducible apply zCN); exact rfl) | ((with_reducible apply zC); exact rfl) | ((with_reducible refine zX ?_ ?_); exact rfl) | ((with_reducible refine zE (And.intro ?_ ?_)); exact kr) | (with_reducible refine zE ?_) | ((with_reducible apply zP); exact dp) | ((with_reducible apply zN); exact dn) | ((with_reducible apply zA); exact da) | ((with_reducible apply zS); exact ds) | ((with_reducible apply zY); exact rfl; exact rfl; exact tf) | ((with_reducible apply zG); exact rfl; exact rfl; exact tf) | ((with_reducible apply zU); exact rfl; exact rfl) | ((with_reducible apply zD); exact rfl; exact rfl) | ((with_reducible apply zB); exact rfl; exact rfl)))
  refine awp_loopL2 (fun (k : Nat) (M : List (List Int)) => [(1, .ptr 1 0), (3, .d (slV L)), (4, .d (I i)), (5, ownZ 50 1 M.length), (6, .d (I k))]) (fun k M => (1, ⟨25, rulC T A⟩) :: ownM 50 22 (slC M) M.length) (fun k M => k ≤ L.length ∧ M = extTo (A.getD i a0) L k) (fun k _ => L.length - k) 0 [] ⟨Nat.zero_le _, rfl⟩ (And.intro rfl (And.intro rfl (And.intro rfl (And.intro rfl (And.intro rfl trivial))))) (And.intro rfl trivial) fun k M ⟨hk, hM⟩ => ?_
  by_cases hlk : k < L.length
  rotate_left
  · obtain rfl : k = L.length := by omega
    refine awp_ownZ 5 50 1 (t := 22) (slC M) (slC_len M) rfl (fun k hk => by rw [hk]; rfl) ?_
    (repeat' (first | (with_reducible first | intro hg | refine mv (by constructor) ?_) | ((with_reducible first | refine zR ?_ ?_ | refine zW mixed ?_ ?_); exact kr) | ((with_reducible apply zK); exact rfl; exact tf) | ((with_reducible apply zCD); exact rfl) | ((with_reducible apply zCN); exact rfl) | ((with_reducible apply zC); exact rfl) | ((with_reducible refine zX ?_ ?_); exact rfl) | ((with_reducible refine zE (And.intro ?_ ?_)); exact kr) | (with_reducible refine zE ?_) | ((with_reducible apply zP); exact dp) | ((with_reducible apply zN); exact dn) | ((with_reducible apply zA); exact da) | ((with_reducible apply zS); exact ds) | ((with_reducible apply zY); exact rfl; exact rfl; exact tf) | ((with_reducible apply zG); exact rfl; exact rfl; exact tf) | ((with_reducible apply zU); exact rfl; exact rfl) | ((with_reducible apply zD); exact rfl; exact rfl) | ((with_reducible apply zB); exact rfl; exact rfl)))
    exact ⟨i + 1, hlt, by omega, (And.intro rfl (And.intro (congrArg (fun l => AV.d (slV l)) (hM.trans hst.symm)) (And.intro (rfl) trivial))), (And.intro rfl trivial)⟩
  have hml : (L.getD k []).length ≤ 3 := by
    have : L.getD k [] ∈ L := by rw [List.getD_eq_getElem?_getD, List.getElem?_eq_getElem hlk]; exact List.getElem_mem _
    have := hm _ this
    omega
  have hco := copyIntsO_A (L.getD k []) (by omega)
  have hkc : k * cntA (A.getD i a0) ≤ 441 * 21 := Nat.mul_le_mul (by omega) hcn
  have hsn : ∀ j, ext (A.getD i a0) (L.getD k []) (j + 1) = ext (A.getD i a0) (L.getD k []) j ++ [L.getD k [] ++ [(A.getD i a0).lo + j]] := fun _ => rfl
  have hfin : extTo (A.getD i a0) L (k + 1) = extTo (A.getD i a0) L k ++ ext (A.getD i a0) (L.getD k []) (cntA (A.getD i a0)) := rfl
  have hcd : ∀ j : Nat, (A.getD i a0).lo + j ≤ (A.getD i a0).hi ↔ j < cntA (A.getD i a0) := fun j => by unfold cntA; omega
  (repeat' (first | (with_reducible first | intro hg | refine mv (by constructor) ?_) | ((with_reducible first | refine zR ?_ ?_ | refine zW mixed ?_ ?_); exact kr) | ((with_reducible apply zK); exact rfl; exact tf) | ((with_reducible apply zCD); exact rfl) | ((with_reducible apply zCN); exact rfl) | ((with_reducible apply zC); exact rfl) | ((with_reducible refine zX ?_ ?_); exact rfl) | ((with_reducible refine zE (And.intro ?_ ?_)); exact kr) | (with_reducible refine zE ?_) | ((with_reducible apply zP); (first | exact o_indexF a0 actC_len (by decide) rfl rfl (by omega) rfl | exact dp)) | ((with_reducible apply zN); exact dn) | ((with_reducible apply zA); exact da) | ((with_reducible apply zS); exact ds) | ((with_reducible apply zY); exact rfl; exact rfl; exact tf) | ((with_reducible apply zG); exact rfl; exact rfl; exact tf) | ((with_reducible apply zU); exact rfl; exact rfl) | ((with_reducible apply zD); exact rfl; exact rfl) | ((with_reducible apply zB); exact rfl; exact rfl)))
  refine awp_loopL2 (fun (j : Nat) (M : List (List Int)) => [(1, .ptr 1 0), (3, .d (slV L)), (4, .d (I i)), (5, ownZ 50 1 M.length), (6, .d (I k)), (7, .d (I ((A.getD i a0).lo + j)))]) (fun j M => (1, ⟨25, rulC T A⟩) :: ownM 50 22 (slC M) M.length) (fun j M => j ≤ cntA (A.getD i a0) ∧ M = extTo (A.getD i a0) L k ++ ext (A.getD i a0) (L.getD k []) j) (fun j _ => cntA (A.getD i a0) - j) 0 M ⟨Nat.zero_le _, by rw [hM]; simp [ext]⟩ (And.intro rfl (And.intro rfl (And.intro rfl (And.intro rfl (And.intro rfl (And.intro (congrArg (fun n => AV.d (I n)) (Int.add_zero _).symm) trivial)))))) ⟨rfl, leM_own fun k hk => by rw [hk]; rfl⟩ fun j M ⟨hj, hM⟩ => ?_
  by_cases hlj : j < cntA (A.getD i a0)
  rotate_left
  · have hjc : j = cntA (A.getD i a0) := by omega
    have hnc := mt (hcd j).1 hlj
    (repeat' (first | (with_reducible first | intro hg | refine mv (by constructor) ?_) | ((with_reducible first | refine zR ?_ ?_ | refine zW mixed ?_ ?_); exact kr) | ((with_reducible apply zK); exact rfl; exact tf) | ((with_reducible apply zCD); exact rfl) | ((with_reducible apply zCN); exact rfl) | ((with_reducible apply zC); exact rfl) | ((with_reducible refine zX ?_ ?_); exact rfl) | ((with_reducible refine zE (And.intro ?_ ?_)); exact kr) | (with_reducible refine zE ?_) | ((with_reducible apply zP); (first | exact o_indexF a0 actC_len (by decide) rfl rfl (by omega) rfl | exact dp)) | ((with_reducible apply zN); exact dn) | ((with_reducible apply zA); exact da) | ((with_reducible apply zS); exact ds) | ((with_reducible apply zY); exact rfl; exact rfl; exact tf) | ((with_reducible apply zG); exact rfl; exact rfl; exact tf) | ((with_reducible apply zU); exact rfl; exact rfl) | ((with_reducible apply zD); exact rfl; exact rfl) | ((with_reducible apply zB); exact rfl; exact rfl)))
    exact ⟨k + 1, M, ⟨hlk, by rw [hM, hfin, hjc]⟩, by omega, (And.intro rfl (And.intro rfl (And.intro rfl (And.intro rfl (And.intro rfl trivial))))), ⟨rfl, leM_own fun k hk => by rw [hk]; rfl⟩⟩
  have hyc := (hcd j).2 hlj
  have hMl : M.length = k * cntA (A.getD i a0) + j := by rw [hM, List.length_append, extTo_len, ext_len]
  have hnx := slC_snoc M (L.getD k []) ((A.getD i a0).lo + j)
  have hMn : M ++ [L.getD k [] ++ [(A.getD i a0).lo + j]] = extTo (A.getD i a0) L k ++ ext (A.getD i a0) (L.getD k []) (j + 1) := by rw [hsn, ← List.append_assoc, ← hM]
  rcases M with _ | ⟨x, M⟩
  · (repeat' ((fail_if_success (with_reducible show AWp _ _ (.region 12 _ _) _ _)); (first | (with_reducible first | intro hg | refine mv (by constructor) ?_) | ((with_reducible first | refine zR ?_ ?_ | refine zW mixed ?_ ?_); exact kr) | ((with_reducible apply zK); exact rfl; exact tf) | ((with_reducible apply zCD); exact rfl) | ((with_reducible apply zCN); exact rfl) | ((with_reducible apply zC); exact rfl) | ((with_reducible refine zX ?_ ?_); exact rfl) | ((with_reducible refine zE (And.intro ?_ ?_)); exact kr) | (with_reducible refine zE ?_) | ((with_reducible apply zP); (first | exact o_indexF a0 actC_len (by decide) rfl rfl (by omega) rfl | exact dp)) | ((with_reducible apply zN); exact dn) | ((with_reducible apply zA); exact da) | ((with_reducible apply zS); exact ds) | ((with_reducible apply zY); exact rfl; exact rfl; exact tf) | ((with_reducible apply zG); exact rfl; exact rfl; exact tf) | ((with_reducible apply zU); exact rfl; exact rfl) | ((with_reducible apply zD); exact rfl; exact rfl) | ((with_reducible apply zB); exact rfl; exact rfl))))
    refine awp_regionL ?_
    ((refine wpl_run (l1 := [_, _, _, _, _, _, _, _, _]) rfl ?_ ?_); exact kr; (repeat' (first | (with_reducible first | intro hg | refine mv (by constructor) ?_) | ((with_reducible first | refine zR ?_ ?_ | refine zW mixed ?_ ?_); exact kr) | ((with_reducible apply zK); exact rfl; exact tf) | ((with_reducible apply zCD); exact rfl) | ((with_reducible apply zCN); exact rfl) | ((with_reducible apply zC); exact rfl) | ((with_reducible refine zX ?_ ?_); exact rfl) | ((with_reducible refine zE (And.intro ?_ ?_)); exact kr) | (with_reducible refine zE ?_) | ((with_reducible apply zP); (first | exact o_loadM [] rfl hlk | exact o_indexI (j := k) (xs := L) (f := isl) rfl rfl hlk rfl | exact dp)) | ((with_reducible apply zN); (first | exact dn | exact o_callO rfl hco (.inl rfl))) | ((with_reducible apply zA); exact da) | ((with_reducible apply zS); exact ds) | ((with_reducible apply zY); exact rfl; exact rfl; exact tf) | ((with_reducible apply zG); exact rfl; exact rfl; exact tf) | ((with_reducible apply zU); exact rfl; exact rfl) | ((with_reducible apply zD); exact rfl; exact rfl) | ((with_reducible apply zB); exact rfl; exact rfl))))
    refine wpl_turn (turns_freeze 48 (by rfl)) fun _ => ?_
    ((refine wpl_run (l1 := [_, _, _]) rfl ?_ ?_); exact kr; (repeat' (first | (with_reducible first | intro hg | refine mv (by constructor) ?_) | ((with_reducible first | refine zR ?_ ?_ | refine zW mixed ?_ ?_); exact kr) | ((with_reducible apply zK); exact rfl; exact tf) | ((with_reducible apply zCD); exact rfl) | ((with_reducible apply zCN); exact rfl) | ((with_reducible apply zC); exact rfl) | ((with_reducible refine zX ?_ ?_); exact rfl) | ((with_reducible refine zE (And.intro ?_ ?_)); exact kr) | (with_reducible refine zE ?_) | ((with_reducible apply zP); exact dp) | ((with_reducible apply zN); exact dn) | ((with_reducible apply zA); exact da) | ((with_reducible apply zS); exact ds) | ((with_reducible apply zY); exact rfl; exact rfl; exact tf) | ((with_reducible apply zG); exact rfl; exact rfl; exact tf) | ((with_reducible apply zU); exact rfl; exact rfl) | ((with_reducible apply zD); exact rfl; exact rfl) | ((with_reducible apply zB); exact rfl; exact rfl))))
    refine wpl_nil ?_
    (repeat' (first | (with_reducible first | intro hg | refine mv (by constructor) ?_) | ((with_reducible first | refine zR ?_ ?_ | refine zW mixed ?_ ?_); exact kr) | ((with_reducible apply zK); exact rfl; exact tf) | ((with_reducible apply zCD); exact rfl) | ((with_reducible apply zCN); exact rfl) | ((with_reducible apply zC); exact rfl) | ((with_reducible refine zX ?_ ?_); exact rfl) | ((with_reducible refine zE (And.intro ?_ ?_)); exact kr) | (with_reducible refine zE ?_) | ((with_reducible apply zP); exact dp) | ((with_reducible apply zN); exact dn) | ((with_reducible apply zA); exact da) | ((with_reducible apply zS); exact ds) | ((with_reducible apply zY); exact rfl; exact rfl; exact tf) | ((with_reducible apply zG); exact rfl; exact rfl; exact tf) | ((with_reducible apply zU); exact rfl; exact rfl) | ((with_reducible apply zD); exact rfl; exact rfl) | ((with_reducible apply zB); exact rfl; exact rfl)))
    exact ⟨j + 1, _, ⟨hlj, hMn⟩, by omega, (And.intro rfl (And.intro rfl (And.intro rfl (And.intro rfl (And.intro rfl (And.intro (congrArg (fun n => AV.d (I n)) (show (A.getD i a0).lo + (j : Int) + 1 = (A.getD i a0).lo + ((j + 1 : Nat) : Int) by omega)) trivial)))))), ⟨rfl, leM_own fun _ _ => congrArg (fun l => some (Blk.mk _ l)) hnx⟩⟩
  · have hxl : (slC (x :: M)).length = (M.length + 1) * 1 := by simp
    rw [List.length_cons] at hMl
    (repeat' ((fail_if_success (with_reducible show AWp _ _ (.region 12 _ _) _ _)); (first | (with_reducible first | intro hg | refine mv (by constructor) ?_) | ((with_reducible first | refine zR ?_ ?_ | refine zW mixed ?_ ?_); exact kr) | ((with_reducible apply zK); exact rfl; exact tf) | ((with_reducible apply zCD); exact rfl) | ((with_reducible apply zCN); exact rfl) | ((with_reducible apply zC); exact rfl) | ((with_reducible refine zX ?_ ?_); exact rfl) | ((with_reducible refine zE (And.intro ?_ ?_)); exact kr) | (with_reducible refine zE ?_) | ((with_reducible apply zP); (first | exact o_indexF a0 actC_len (by decide) rfl rfl (by omega) rfl | exact dp)) | ((with_reducible apply zN); exact dn) | ((with_reducible apply zA); exact da) | ((with_reducible apply zS); exact ds) | ((with_reducible apply zY); exact rfl; exact rfl; exact tf) | ((with_reducible apply zG); exact rfl; exact rfl; exact tf) | ((with_reducible apply zU); exact rfl; exact rfl) | ((with_reducible apply zD); exact rfl; exact rfl) | ((with_reducible apply zB); exact rfl; exact rfl))))
    refine awp_regionL ?_
    ((refine wpl_run (l1 := [_, _, _, _, _, _, _, _, _]) rfl ?_ ?_); exact kr; (repeat' (first | (with_reducible first | intro hg | refine mv (by constructor) ?_) | ((with_reducible first | refine zR ?_ ?_ | refine zW mixed ?_ ?_); exact kr) | ((with_reducible apply zK); exact rfl; exact tf) | ((with_reducible apply zCD); exact rfl) | ((with_reducible apply zCN); exact rfl) | ((with_reducible apply zC); exact rfl) | ((with_reducible refine zX ?_ ?_); exact rfl) | ((with_reducible refine zE (And.intro ?_ ?_)); exact kr) | (with_reducible refine zE ?_) | ((with_reducible apply zP); (first | exact o_loadM [] rfl hlk | exact o_indexI (j := k) (xs := L) (f := isl) rfl rfl hlk rfl | exact dp)) | ((with_reducible apply zN); (first | exact dn | exact o_callO rfl hco (.inl rfl))) | ((with_reducible apply zA); exact da) | ((with_reducible apply zS); exact ds) | ((with_reducible apply zY); exact rfl; exact rfl; exact tf) | ((with_reducible apply zG); exact rfl; exact rfl; exact tf) | ((with_reducible apply zU); exact rfl; exact rfl) | ((with_reducible apply zD); exact rfl; exact rfl) | ((with_reducible apply zB); exact rfl; exact rfl))))
    refine wpl_turn (turns_freeze 48 (by rfl)) fun _ => ?_
    ((refine wpl_run (l1 := [_, _, _]) rfl ?_ ?_); exact kr; (repeat' (first | (with_reducible first | intro hg | refine mv (by constructor) ?_) | ((with_reducible first | refine zR ?_ ?_ | refine zW mixed ?_ ?_); exact kr) | ((with_reducible apply zK); exact rfl; exact tf) | ((with_reducible apply zCD); exact rfl) | ((with_reducible apply zCN); exact rfl) | ((with_reducible apply zC); exact rfl) | ((with_reducible refine zX ?_ ?_); exact rfl) | ((with_reducible refine zE (And.intro ?_ ?_)); exact kr) | (with_reducible refine zE ?_) | ((with_reducible apply zP); exact dp) | ((with_reducible apply zN); exact dn) | ((with_reducible apply zA); (first | ((apply o_app); (case hx => exact rfl); (case hm => exact rfl); (case hy => exact .own rfl rfl); (case hty => exact rfl); (case hl => solve | exact hxl | rfl); (case hcl => solve | rfl | exact hxl | simp); (case hpos => omega); (case hb => omega); (case hb2 => omega); (case hnew => exact rfl)) | ((apply o_app); (case hx => exact rfl); (case hm => exact rfl); (case hy => exact .sl rfl); (case hty => exact rfl); (case hl => solve | exact hxl | rfl); (case hcl => solve | rfl | exact hxl | simp); (case hpos => omega); (case hb => omega); (case hb2 => omega); (case hnew => exact rfl)) | exact da)) | ((with_reducible apply zS); exact ds) | ((with_reducible apply zY); exact rfl; exact rfl; exact tf) | ((with_reducible apply zG); exact rfl; exact rfl; exact tf) | ((with_reducible apply zU); exact rfl; exact rfl) | ((with_reducible apply zD); exact rfl; exact rfl) | ((with_reducible apply zB); exact rfl; exact rfl))))
    refine wpl_nil ?_
    (repeat' (first | (with_reducible first | intro hg | refine mv (by constructor) ?_) | ((with_reducible first | refine zR ?_ ?_ | refine zW mixed ?_ ?_); exact kr) | ((with_reducible apply zK); exact rfl; exact tf) | ((with_reducible apply zCD); exact rfl) | ((with_reducible apply zCN); exact rfl) | ((with_reducible apply zC); exact rfl) | ((with_reducible refine zX ?_ ?_); exact rfl) | ((with_reducible refine zE (And.intro ?_ ?_)); exact kr) | (with_reducible refine zE ?_) | ((with_reducible apply zP); exact dp) | ((with_reducible apply zN); exact dn) | ((with_reducible apply zA); exact da) | ((with_reducible apply zS); exact ds) | ((with_reducible apply zY); exact rfl; exact rfl; exact tf) | ((with_reducible apply zG); exact rfl; exact rfl; exact tf) | ((with_reducible apply zU); exact rfl; exact rfl) | ((with_reducible apply zD); exact rfl; exact rfl) | ((with_reducible apply zB); exact rfl; exact rfl)))
    exact ⟨j + 1, _, ⟨hlj, hMn⟩, by omega, (And.intro rfl (And.intro rfl (And.intro rfl (And.intro (by rw [List.length_append]; rfl) (And.intro (rfl) (And.intro (congrArg (fun n => AV.d (I n)) (show (A.getD i a0).lo + (j : Int) + 1 = (A.getD i a0).lo + ((j + 1 : Nat) : Int) by omega)) trivial)))))), ⟨rfl, leM_own fun _ _ => congrArg (fun l => some (Blk.mk _ l)) hnx⟩⟩

end Go.Proofs.YtagpmpbmfjaiiaaGreatDoor
