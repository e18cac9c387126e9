/- Rules of flat; their settings, one after the other. -/
import Derived.Test.YtagpmpbmfjaiiaaGreatDoorPb
set_option linter.unusedVariables false
set_option linter.unusedSimpArgs false
namespace Go.Proofs.YtagpmpbmfjaiiaaGreatDoor
open Go.RowKit
set_option maxRecDepth 20000

structure Act3 where
  lo : Int
  hi : Int
  eff : List Int
instance : Inhabited Act3 := ⟨⟨0, 0, []⟩⟩
abbrev actC (a : Act3) : List DV := [I a.lo, I a.hi, isl a.eff]
abbrev actS (A : List Act3) : DV := .slice A.length (A.map actC).flatten
abbrev rulC (T : List Int) (A : List Act3) : List DV := [isl T, actS A]
abbrev rulV (T : List Int) (A : List Act3) : DV := .agg (rulC T A)
abbrev a0 : Act3 := ⟨0, 0, []⟩
theorem actC_len (a : Act3) : (actC a).length = 3 := rfl

/-- The settings behind some settings; none: they were the last ones. -/
def nextS : List Act3 → List Int → Option (List Int)
  | a :: A, x :: xs => match nextS A xs with
    | some ys => some (x :: ys)
    | none => if x = a.hi then none else some ((x + 1) :: A.map Act3.lo)
  | _, _ => none
/-- The settings, one after the other. -/
structure ChainS (A : List Act3) (L : List (List Int)) : Prop where
  pos : 0 < L.length
  head : L.getD 0 [] = A.map Act3.lo
  step : ∀ k, k + 1 < L.length → nextS A (L.getD k []) = some (L.getD (k + 1) [])
  last : nextS A (L.getD (L.length - 1) []) = none
  len : ∀ l ∈ L, l.length = A.length
  small : ∀ l ∈ L, ∀ x ∈ l, -1000000 ≤ x ∧ x ≤ 1000000
/-- From the place i on all of the settings are the highest ones. -/
def tops (A : List Act3) (xs : List Int) (i : Nat) : Prop := ∀ j, i ≤ j → j < A.length → nth xs j = (A.getD j a0).hi
theorem nextS_none : ∀ (A : List Act3) (xs : List Int), xs.length = A.length → tops A xs 0 → nextS A xs = none
  | [], xs, h, _ => by cases xs <;> rfl
  | a :: A, [], h, _ => by simp at h
  | a :: A, x :: xs, h, ht => by
    have h1 : nextS A xs = none := nextS_none A xs (by simpa using h) fun j _ hj => ht (j + 1) (by omega) (by simp; omega)
    have h2 : x = a.hi := ht 0 (by omega) (by simp)
    unfold nextS
    rw [h1]
    simp [h2]
theorem nextS_some : ∀ (A : List Act3) (xs : List Int) (i : Nat), xs.length = A.length → i < A.length → tops A xs (i + 1) → nth xs i ≠ (A.getD i a0).hi →
    nextS A xs = some (xs.take i ++ (nth xs i + 1) :: (A.drop (i + 1)).map Act3.lo)
  | [], xs, i, h, hi, _, _ => by simp at hi
  | a :: A, [], i, h, _, _, _ => by simp at h
  | a :: A, x :: xs, 0, h, _, ht, hne => by
    have h1 : nextS A xs = none := nextS_none A xs (by simpa using h) fun j _ hj => ht (j + 1) (by omega) (by simp; omega)
    have h2 : ¬ x = a.hi := hne
    unfold nextS
    rw [h1]
    simp [h2, nth]
  | a :: A, x :: xs, i + 1, h, hi, ht, hne => by
    have h1 := nextS_some A xs i (by simpa using h) (by simpa using hi) (fun j hj hj2 => ht (j + 1) (by omega) (by simp; omega)) hne
    unfold nextS
    rw [h1]
    simp [nth]

theorem set_mid (v : Int) : ∀ (N R : List Int) (i : Nat), i < N.length → (N.take (i + 1) ++ R).set i v = N.take i ++ v :: R
  | x :: N, R, 0, _ => by simp
  | x :: N, R, i + 1, h => by
    have := set_mid v N R i (by simpa using h)
    rw [List.take_succ_cons, List.cons_append, List.set_cons_succ, this]; rfl
theorem nth_mid : ∀ (N R : List Int) (i : Nat), i < N.length → nth (N.take (i + 1) ++ R) i = nth N i
  | x :: N, R, 0, _ => by simp [nth]
  | x :: N, R, i + 1, h => by
    have := nth_mid N R i (by simpa using h)
    unfold nth at *
    simpa using this
def idxV : Nat → Int
  | 0 => -1
  | i + 1 => i
theorem idxV_pred (i : Nat) : ((i : Nat) : Int) - 1 = idxV i := by
  cases i with
  | zero => rfl
  | succ i => show ((i + 1 : Nat) : Int) - 1 = (i : Int); omega
theorem drop_act {A : List Act3} {i : Nat} (h : i < A.length) : (A.drop i).map Act3.lo = (A.getD i a0).lo :: (A.drop (i + 1)).map Act3.lo := by
  rw [List.drop_eq_getElem_cons h, List.getD_eq_getElem?_getD, List.getElem?_eq_getElem h]; rfl

end Go.Proofs.YtagpmpbmfjaiiaaGreatDoor
