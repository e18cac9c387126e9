/- All settings, by the reference; the best ones. -/
import Derived.Test.YtagpmpbmfjaiiaaPy
import Derived.Test.YtagpmpbmfjaiiaaPq
set_option linter.unusedVariables false
set_option linter.unusedSimpArgs false
namespace Go.Proofs.Ytagpmpbmfjaiiaa
open Go.RowKit
set_option maxRecDepth 20000
set_option maxHeartbeats 8000000

abbrev slC (L : List (List Int)) : List DV := L.map isl
abbrev slV (L : List (List Int)) : DV := .slice L.length (slC L)
theorem slC_len (L : List (List Int)) : (slC L).length = L.length * 1 := by simp
/-- Some settings, with one more number each. -/
def ext (a : Act3) (l : List Int) : Nat → List (List Int)
  | 0 => []
  | j + 1 => ext a l j ++ [l ++ [a.lo + j]]
theorem ext_len (a : Act3) (l : List Int) : ∀ j, (ext a l j).length = j
  | 0 => rfl
  | j + 1 => by unfold ext; rw [List.length_append, ext_len a l j]; rfl
def extTo (a : Act3) (L : List (List Int)) : Nat → List (List Int)
  | 0 => []
  | k + 1 => extTo a L k ++ ext a (L.getD k []) (cntA a)
theorem extTo_len (a : Act3) (L : List (List Int)) : ∀ k, (extTo a L k).length = k * cntA a
  | 0 => by simp [extTo]
  | k + 1 => by unfold extTo; rw [List.length_append, extTo_len a L k, ext_len, Nat.add_mul, Nat.one_mul]
def allTo (A : List Act3) : Nat → List (List Int)
  | 0 => [[]]
  | i + 1 => extTo (A.getD i a0) (allTo A i) (allTo A i).length
theorem cntA_le {T : List Int} {A : List Act3} (h : RulOk T A) {i : Nat} (hi : i < A.length) : cntA (A.getD i a0) ≤ 21 := by
  have := h.b _ (act_mem hi)
  unfold cntA; omega
theorem allTo_len {T : List Int} {A : List Act3} (h : RulOk T A) : ∀ i, i ≤ A.length → (allTo A i).length ≤ 21 ^ i
  | 0, _ => by simp [allTo]
  | i + 1, hi => by
    have h1 := allTo_len h i (by omega)
    have h2 := cntA_le h (i := i) (by omega)
    unfold allTo
    rw [extTo_len, Nat.pow_succ]
    exact Nat.mul_le_mul h1 h2
theorem extTo_mem {a : Act3} {L : List (List Int)} {n : Nat} (h : ∀ l ∈ L, l.length = n) : ∀ k, k ≤ L.length → ∀ l ∈ extTo a L k, l.length = n + 1
  | 0, _, l, hl => by simp [extTo] at hl
  | k + 1, hk, l, hl => by
    unfold extTo at hl
    rcases List.mem_append.1 hl with hl | hl
    · exact extTo_mem h k (by omega) l hl
    · have hm : L.getD k [] ∈ L := by rw [List.getD_eq_getElem?_getD, List.getElem?_eq_getElem (by omega)]; exact List.getElem_mem _
      have hn := h _ hm
      have : ∀ j, ∀ l ∈ ext a (L.getD k []) j, l.length = n + 1 := fun j => by
        induction j with
        | zero => intro l hl; simp [ext] at hl
        | succ j ih =>
          intro l hl
          unfold ext at hl
          rcases List.mem_append.1 hl with hl | hl
          · exact ih l hl
          · rw [List.mem_singleton.1 hl, List.length_append, hn]; rfl
      exact this _ l hl
theorem allTo_mem (A : List Act3) : ∀ i, i ≤ A.length → ∀ l ∈ allTo A i, l.length = i
  | 0, _, l, hl => by simp [allTo] at hl; rw [hl]; rfl
  | i + 1, hi, l, hl => extTo_mem (allTo_mem A i (by omega)) _ (Nat.le_refl _) l hl
/-! It is the list of all settings in lexicographic order. -/
theorem ext_eq (a : Act3) (l : List Int) (R : List (List Int)) : ∀ j, (ext a l j).flatMap (fun m => R.map (m ++ ·)) = (upTo (fun x => R.map (x :: ·)) a.lo j).map (l ++ ·) := by
  have up_snoc : ∀ (f : Int → List (List Int)) (j : Nat) (x : Int), upTo f x (j + 1) = upTo f x j ++ f (x + j) := fun f j => by
    induction j with
    | zero => intro x; simp [upTo]
    | succ j ih =>
      intro x
      rw [show upTo f x (j + 1 + 1) = f x ++ upTo f (x + 1) (j + 1) from rfl, ih (x + 1), show upTo f x (j + 1) = f x ++ upTo f (x + 1) j from rfl, List.append_assoc]
      congr 3; omega
  intro j
  induction j with
  | zero => rfl
  | succ j ih =>
    rw [up_snoc, List.map_append, ← ih]
    show (ext a l j ++ [l ++ [a.lo + j]]).flatMap _ = _
    rw [List.flatMap_append]
    simp [List.map_map, Function.comp_def]
theorem extTo_eq (a : Act3) (L : List (List Int)) (R : List (List Int)) : ∀ k, k ≤ L.length → (extTo a L k).flatMap (fun m => R.map (m ++ ·)) = (L.take k).flatMap (fun l => (upTo (fun x => R.map (x :: ·)) a.lo (cntA a)).map (l ++ ·))
  | 0, _ => rfl
  | k + 1, hk => by
    unfold extTo
    rw [List.flatMap_append, extTo_eq a L R k (by omega), ext_eq, List.take_add_one, List.getElem?_eq_getElem (by omega), List.flatMap_append, List.getD_eq_getElem?_getD, List.getElem?_eq_getElem (by omega)]
    simp
theorem allTo_eq (A : List Act3) : ∀ i, i ≤ A.length → (allTo A i).flatMap (fun m => (allS (A.drop i)).map (m ++ ·)) = allS A
  | 0, _ => by simp [allTo]
  | i + 1, hi => by
    rw [← allTo_eq A i (by omega)]
    show (extTo (A.getD i a0) (allTo A i) (allTo A i).length).flatMap _ = _
    rw [extTo_eq _ _ _ _ (Nat.le_refl _), List.take_length, drop_getA (by omega : i < A.length)]
    rfl
theorem allTo_all (A : List Act3) : allTo A A.length = allS A := by
  have h := allTo_eq A A.length (Nat.le_refl _)
  rw [List.drop_length] at h
  rw [← h]
  simp [allS]

theorem copyIntsO_A (xs : List Int) (hm : xs.length ≤ 1000000) : ACo Try.prog 24 [isl xs] 3 xs.length 1 (ivs xs) := by
  suffices h : ACo Try.prog 24 [isl xs] 3 (0 + xs.length) 1 (ivs xs) by rwa [Nat.zero_add] at h
  by_cases hne : xs = []
  · subst hne
    refine aco_body Try.func24 rfl (by kernel_rfl) fun w0 ok => ?_; show AWp _ (ctx0 w0 ok _) _ (ARetO _ _ _ _ _) (entry _)
    (repeat' (first | (with_reducible first | intro hg | refine mv (by constructor) ?_) | ((with_reducible first | refine zR ?_ ?_ | refine zW mixed ?_ ?_); exact kr) | ((with_reducible apply zK); exact rfl; exact tf) | ((with_reducible apply zCD); exact rfl) | ((with_reducible apply zCN); exact rfl) | ((with_reducible apply zC); exact rfl) | ((with_reducible refine zX ?_ ?_); exact rfl) | ((with_reducible refine zE (And.intro ?_ ?_)); exact kr) | (with_reducible refine zE ?_) | ((with_reducible apply zP); exact dp) | ((with_reducible apply zN); exact dn) | ((with_reducible apply zA); exact da) | ((with_reducible apply zS); exact ds) | ((with_reducible apply zY); exact rfl; exact rfl; exact tf) | ((with_reducible apply zG); exact rfl; exact rfl; exact tf) | ((with_reducible apply zU); exact rfl; exact rfl) | ((with_reducible apply zD); exact rfl; exact rfl) | ((with_reducible apply zB); exact rfl; exact rfl)))
    ((with_reducible first | apply q_retO | apply q_retON); exact rfl; exact rfl; exact rfl)
  · have hne2 := ivs_ne hne
    have hpos : 0 < xs.length := List.length_pos_iff.2 hne
    refine aco_body Try.func24 rfl (by kernel_rfl) fun w0 ok => ?_; show AWp _ (ctx0 w0 ok _) _ (ARetO _ _ _ _ _) (entry _)
    (repeat' (first | (with_reducible first | intro hg | refine mv (by constructor) ?_) | ((with_reducible first | refine zR ?_ ?_ | refine zW mixed ?_ ?_); exact kr) | ((with_reducible apply zK); exact rfl; exact tf) | ((with_reducible apply zCD); exact rfl) | ((with_reducible apply zCN); exact rfl) | ((with_reducible apply zC); exact rfl) | ((with_reducible refine zX ?_ ?_); exact rfl) | ((with_reducible refine zE (And.intro ?_ ?_)); exact kr) | (with_reducible refine zE ?_) | ((with_reducible apply zP); exact dp) | ((with_reducible apply zN); exact dn) | ((with_reducible apply zA); exact da) | ((with_reducible apply zS); exact ds) | ((with_reducible apply zY); exact rfl; exact rfl; exact tf) | ((with_reducible apply zG); exact rfl; exact rfl; exact tf) | ((with_reducible apply zU); exact rfl; exact rfl) | ((with_reducible apply zD); exact rfl; exact rfl) | ((with_reducible apply zB); exact rfl; exact rfl)))
    ((with_reducible first | apply q_retO | apply q_retON); exact rfl; exact rfl; exact rfl)
section
variable {P : Program} {s : AS} {dst : Option Tmp} {ty : TypeId} {ps : String} {af : Array Edge} {t : TypeId} {x y : Operand}
/-- An item of a slice whose items have one cell each. -/
theorem o_loadM {α : Type} (d : α) {n : Nat} {xs : List α} {f : α → DV} {j : Nat} [h : TyI P t false n] (hx : s.ev x = .d (.ref ((xs.map f).drop j))) (hj : j < xs.length) (gd : Option (Nat × Bool)) : Does P ⟨dst, .load t x, ty, ps, af, gd⟩ s [] (.put (.d (f (xs.getD j d)))) :=
  does_loadR hx (.one h.eq (get_map d hj))
end
theorem leM_own {s : AS} {nm : Nat} {t : TypeId} {cs : List DV} {n : Nat} (h : ∀ k, n = k + 1 → s.mem nm = some ⟨t, cs⟩) : leM s (ownM nm t cs n) := by
  cases n with
  | zero => trivial
  | succ k => exact ⟨h k rfl, trivial⟩
theorem slC_snoc (M : List (List Int)) (l : List Int) (n : Int) : slC M ++ [DV.slice (l.length + 1) (((ivs l ++ [I n]).drop 0).take ((l.length + 1) * 1))] = slC (M ++ [l ++ [n]]) := by
  rw [List.drop_zero, Nat.mul_one, List.take_of_length_le (by simp)]; simp [slC]
end Go.Proofs.Ytagpmpbmfjaiiaa
