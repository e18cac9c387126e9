/- Merged: XPc XPd XPe XPf. -/
import Derived.Test.YtagpmpbmfjaiiaaGreatDoorPb
import Derived.Test.YtagpmpbmfjaiiaaGreatDoorPh
set_option linter.unusedVariables false
set_option linter.unusedSimpArgs false
/- Rules of flat; their settings, one after the other. -/
namespace Go.Proofs.YtagpmpbmfjaiiaaGreatDoor
open Go.RowKit
set_option maxRecDepth 20000

structure Act3 where
  lo : Int
  hi : Int
  eff : List Int
instance : Inhabited Act3 := ⟨⟨0, 0, []⟩⟩
abbrev actC (a : Act3) : List DV := [I a.lo, I a.hi, isl a.eff]
abbrev actS (A : List Act3) : DV := .slice A.length (A.map actC).flatten
abbrev rulC (T : List Int) (A : List Act3) : List DV := [isl T, actS A]
abbrev rulV (T : List Int) (A : List Act3) : DV := .agg (rulC T A)
abbrev a0 : Act3 := ⟨0, 0, []⟩
theorem actC_len (a : Act3) : (actC a).length = 3 := rfl

/-- The settings behind some settings; none: they were the last ones. -/
def nextS : List Act3 → List Int → Option (List Int)
  | a :: A, x :: xs => match nextS A xs with
    | some ys => some (x :: ys)
    | none => if x = a.hi then none else some ((x + 1) :: A.map Act3.lo)
  | _, _ => none
/-- The settings, one after the other. -/
structure ChainS (A : List Act3) (L : List (List Int)) : Prop where
  pos : 0 < L.length
  head : L.getD 0 [] = A.map Act3.lo
  step : ∀ k, k + 1 < L.length → nextS A (L.getD k []) = some (L.getD (k + 1) [])
  last : nextS A (L.getD (L.length - 1) []) = none
  len : ∀ l ∈ L, l.length = A.length
  small : ∀ l ∈ L, ∀ x ∈ l, -1000000 ≤ x ∧ x ≤ 1000000
/-- From the place i on all of the settings are the highest ones. -/
def tops (A : List Act3) (xs : List Int) (i : Nat) : Prop := ∀ j, i ≤ j → j < A.length → nth xs j = (A.getD j a0).hi
theorem nextS_none : ∀ (A : List Act3) (xs : List Int), xs.length = A.length → tops A xs 0 → nextS A xs = none
  | [], xs, h, _ => by cases xs <;> rfl
  | a :: A, [], h, _ => by simp at h
  | a :: A, x :: xs, h, ht => by
    have h1 : nextS A xs = none := nextS_none A xs (by simpa using h) fun j _ hj => ht (j + 1) (by omega) (by simp; omega)
    have h2 : x = a.hi := ht 0 (by omega) (by simp)
    unfold nextS
    rw [h1]
    simp [h2]
theorem nextS_some : ∀ (A : List Act3) (xs : List Int) (i : Nat), xs.length = A.length → i < A.length → tops A xs (i + 1) → nth xs i ≠ (A.getD i a0).hi →
    nextS A xs = some (xs.take i ++ (nth xs i + 1) :: (A.drop (i + 1)).map Act3.lo)
  | [], xs, i, h, hi, _, _ => by simp at hi
  | a :: A, [], i, h, _, _, _ => by simp at h
  | a :: A, x :: xs, 0, h, _, ht, hne => by
    have h1 : nextS A xs = none := nextS_none A xs (by simpa using h) fun j _ hj => ht (j + 1) (by omega) (by simp; omega)
    have h2 : ¬ x = a.hi := hne
    unfold nextS
    rw [h1]
    simp [h2, nth]
  | a :: A, x :: xs, i + 1, h, hi, ht, hne => by
    have h1 := nextS_some A xs i (by simpa using h) (by simpa using hi) (fun j hj hj2 => ht (j + 1) (by omega) (by simp; omega)) hne
    unfold nextS
    rw [h1]
    simp [nth]

theorem set_mid (v : Int) : ∀ (N R : List Int) (i : Nat), i < N.length → (N.take (i + 1) ++ R).set i v = N.take i ++ v :: R
  | x :: N, R, 0, _ => by simp
  | x :: N, R, i + 1, h => by
    have := set_mid v N R i (by simpa using h)
    rw [List.take_succ_cons, List.cons_append, List.set_cons_succ, this]; rfl
theorem nth_mid : ∀ (N R : List Int) (i : Nat), i < N.length → nth (N.take (i + 1) ++ R) i = nth N i
  | x :: N, R, 0, _ => by simp [nth]
  | x :: N, R, i + 1, h => by
    have := nth_mid N R i (by simpa using h)
    unfold nth at *
    simpa using this
def idxV : Nat → Int
  | 0 => -1
  | i + 1 => i
theorem idxV_pred (i : Nat) : ((i : Nat) : Int) - 1 = idxV i := by
  cases i with
  | zero => rfl
  | succ i => show ((i + 1 : Nat) : Int) - 1 = (i : Int); omega
theorem drop_act {A : List Act3} {i : Nat} (h : i < A.length) : (A.drop i).map Act3.lo = (A.getD i a0).lo :: (A.drop (i + 1)).map Act3.lo := by
  rw [List.drop_eq_getElem_cons h, List.getD_eq_getElem?_getD, List.getElem?_eq_getElem h]; rfl

end Go.Proofs.YtagpmpbmfjaiiaaGreatDoor

/- The walk of the settings. -/
namespace Go.Proofs.YtagpmpbmfjaiiaaGreatDoor
open Go.RowKit
set_option maxRecDepth 20000

/-- Actuators whose numbers are small. -/
def ActsOk (A : List Act3) : Prop := A.length ≤ 1000 ∧ ∀ a ∈ A, -1000000 ≤ a.lo ∧ a.lo ≤ 1000000 ∧ -1000000 ≤ a.hi ∧ a.hi ≤ 1000000
abbrev yas (A : List Act3) (L : List (List Int)) : List YA := L.map fun l => .sl 3 (ivs l) A.length 1
theorem act_mem {A : List Act3} {k : Nat} (h : k < A.length) : A.getD k a0 ∈ A := by
  rw [List.getD_eq_getElem?_getD, List.getElem?_eq_getElem h]; exact List.getElem_mem h

theorem yas_get {A : List Act3} {L : List (List Int)} {k : Nat} {N : List Int} (hk : k < L.length) (h : L.getD k [] = N) : (yas A L)[k]? = some (.sl 3 (ivs N) A.length 1) := by
  rw [List.getD_eq_getElem?_getD, List.getElem?_eq_getElem hk] at h
  rw [List.getElem?_map, List.getElem?_eq_getElem hk, show L[k] = N from h]
  rfl
theorem settings_A (T : List Int) (A : List Act3) (L : List (List Int)) (hc : ChainS A L) (hA : 0 < A.length) (hok : ActsOk A) : AY Tryz.prog 75 [rulV T A] [] (yas A L) true := by
  obtain ⟨hm, hb⟩ := hok
  refine ay_body Tryz.func75 rfl rfl (by kernel_rfl) fun w0 J sJ fz0 l hI => ?_
  show AWp _ (itF w0 J sJ fz0 _) _ (YRet _ _) (entryY _ _ _)
  (repeat' (first | (with_reducible first | intro hg | refine mv (by constructor) ?_) | ((with_reducible first | refine zR ?_ ?_ | refine zW mixed ?_ ?_); exact kr) | ((with_reducible apply zK); exact rfl; exact tf) | ((with_reducible apply zCD); exact rfl) | ((with_reducible apply zCN); exact rfl) | ((with_reducible apply zC); exact rfl) | ((with_reducible refine zX ?_ ?_); exact rfl) | ((with_reducible refine zE (And.intro ?_ ?_)); exact kr) | (with_reducible refine zE ?_) | ((with_reducible apply zP); exact dp) | ((with_reducible apply zN); exact dn) | ((with_reducible apply zA); exact da) | ((with_reducible apply zS); exact ds) | ((with_reducible apply zY); exact rfl; exact rfl; exact tf) | ((with_reducible apply zG); exact rfl; exact rfl; exact tf) | ((with_reducible apply zU); exact rfl; exact rfl) | ((with_reducible apply zD); exact rfl; exact rfl) | ((with_reducible apply zB); exact rfl; exact rfl)))
  have hyv : AS.ev (entryY [rulV T A] l []) (.tmp 1) = .d (.val (.func (.yield l) #[] #[])) := rfl
  refine awp_loopL (α := Nat × List Int) (fun x => [(1, .d (.val (.func (.yield l) #[] #[]))), (2, .ptr 2 0), (4, ownL 21 x.2), (10, .d (actS A)), (11, .d (I A.length)), (12, .d (I x.1)), (VG, cntV 0)]) (fun x => (2, ⟨116, rulC T A⟩) :: ownLM 21 3 x.2)
    (fun x => x.1 ≤ A.length ∧ x.2 = (A.take x.1).map Act3.lo) (fun x => A.length - x.1) (0, []) ⟨Nat.zero_le _, rfl⟩ (And.intro rfl (And.intro rfl (And.intro rfl (And.intro rfl (And.intro rfl (And.intro rfl (And.intro rfl trivial))))))) (And.intro rfl trivial) fun ⟨k, xs⟩ ⟨hk, hx⟩ => ?_
  have hx : xs = (A.take k).map Act3.lo := hx
  have hk : k ≤ A.length := hk
  by_cases hlt : k < A.length
  · have hb1 := hb _ (act_mem hlt)
    have hxs : xs ++ [(A.getD k a0).lo] = (A.take (k + 1)).map Act3.lo := by
      rw [hx, show A.take (k + 1) = A.take k ++ [A.getD k a0] by rw [List.take_add_one, List.getD_eq_getElem?_getD, List.getElem?_eq_getElem hlt]; rfl, List.map_append]; rfl
    have hxl : xs.length = k := by rw [hx]; simp; omega
    rcases xs with _ | ⟨x, xs⟩
    · (repeat' (first | (with_reducible first | intro hg | refine mv (by constructor) ?_) | ((with_reducible first | refine zR ?_ ?_ | refine zW mixed ?_ ?_); exact kr) | ((with_reducible apply zK); exact rfl; exact tf) | ((with_reducible apply zCD); exact rfl) | ((with_reducible apply zCN); exact rfl) | ((with_reducible apply zC); exact rfl) | ((with_reducible refine zX ?_ ?_); exact rfl) | ((with_reducible refine zE (And.intro ?_ ?_)); exact kr) | (with_reducible refine zE ?_) | ((with_reducible apply zP); (first | exact o_indexF a0 actC_len (by decide) rfl rfl (by omega) rfl | exact dp)) | ((with_reducible apply zN); exact dn) | ((with_reducible apply zA); exact da) | ((with_reducible apply zS); exact ds) | ((with_reducible apply zY); exact rfl; exact rfl; exact tf) | ((with_reducible apply zG); exact rfl; exact rfl; exact tf) | ((with_reducible apply zU); exact rfl; exact rfl) | ((with_reducible apply zD); exact rfl; exact rfl) | ((with_reducible apply zB); exact rfl; exact rfl)))
      exact ⟨(k + 1, [(A.getD k a0).lo]), ⟨hlt, hxs⟩, by show A.length - (k + 1) < A.length - k; omega, (And.intro rfl (And.intro rfl (And.intro rfl (And.intro rfl (And.intro rfl (And.intro rfl (And.intro rfl trivial))))))), (And.intro rfl (And.intro rfl trivial))⟩
    · (repeat' (first | (with_reducible first | intro hg | refine mv (by constructor) ?_) | ((with_reducible first | refine zR ?_ ?_ | refine zW mixed ?_ ?_); exact kr) | ((with_reducible apply zK); exact rfl; exact tf) | ((with_reducible apply zCD); exact rfl) | ((with_reducible apply zCN); exact rfl) | ((with_reducible apply zC); exact rfl) | ((with_reducible refine zX ?_ ?_); exact rfl) | ((with_reducible refine zE (And.intro ?_ ?_)); exact kr) | (with_reducible refine zE ?_) | ((with_reducible apply zP); (first | exact o_indexF a0 actC_len (by decide) rfl rfl (by omega) rfl | exact dp)) | ((with_reducible apply zN); exact dn) | ((with_reducible apply zA); exact da) | ((with_reducible apply zS); exact ds) | ((with_reducible apply zY); exact rfl; exact rfl; exact tf) | ((with_reducible apply zG); exact rfl; exact rfl; exact tf) | ((with_reducible apply zU); exact rfl; exact rfl) | ((with_reducible apply zD); exact rfl; exact rfl) | ((with_reducible apply zB); exact rfl; exact rfl)))
      exact ⟨(k + 1, x :: (xs ++ [(A.getD k a0).lo])), ⟨hlt, hxs⟩, by show A.length - (k + 1) < A.length - k; omega, (And.intro rfl (And.intro rfl (And.intro (ownL_snoc 21 x xs _) (And.intro (rfl) (And.intro (rfl) (And.intro (rfl) (And.intro (rfl) trivial))))))), (And.intro rfl (And.intro (blkL_snoc _ x xs _) trivial))⟩
  · have hkl : k = A.length := by omega
    have hxl : xs = L.getD 0 [] := by rw [hc.head, hx, hkl, List.take_length]
    have hxn : xs.length = A.length := by rw [hx, hkl]; simp
    rcases xs with _ | ⟨x, xs⟩
    · simp at hxn; omega
    (repeat' (first | (with_reducible first | intro hg | refine mv (by constructor) ?_) | ((with_reducible first | refine zR ?_ ?_ | refine zW mixed ?_ ?_); exact kr) | ((with_reducible apply zK); exact rfl; exact tf) | ((with_reducible apply zCD); exact rfl) | ((with_reducible apply zCN); exact rfl) | ((with_reducible apply zC); exact rfl) | ((with_reducible refine zX ?_ ?_); exact rfl) | ((with_reducible refine zE (And.intro ?_ ?_)); exact kr) | (with_reducible refine zE ?_) | ((with_reducible apply zP); exact dp) | ((with_reducible apply zN); exact dn) | ((with_reducible apply zA); exact da) | ((with_reducible apply zS); exact ds) | ((with_reducible apply zY); exact rfl; exact rfl; exact tf) | ((with_reducible apply zG); exact rfl; exact rfl; exact tf) | ((with_reducible apply zU); exact rfl; exact rfl) | ((with_reducible apply zD); exact rfl; exact rfl) | ((with_reducible apply zB); exact rfl; exact rfl)))
    refine awp_loopL (α := Nat) (fun k => [(1, .d (.val (.func (.yield l) #[] #[]))), (2, .ptr 2 0), (4, .lsl 21 0 A.length 1), (VG, cntV k)]) (fun k => [(2, ⟨116, rulC T A⟩), (21, ⟨3, ivs (L.getD k [])⟩)])
      (fun k => k < L.length) (fun k => L.length - k) 0 hc.pos (And.intro rfl (And.intro rfl (And.intro (by rw [← hxn]; rfl) (And.intro (rfl) trivial)))) (And.intro rfl (And.intro (by rw [← hxl]; rfl) trivial)) fun k hk => ?_
    have hlen := hc.len _ (show L.getD k [] ∈ L by rw [List.getD_eq_getElem?_getD, List.getElem?_eq_getElem hk]; exact List.getElem_mem hk)
    generalize hN : L.getD k [] = N at *
    (iterate 3 (first | (with_reducible first | intro hg | refine mv (by constructor) ?_) | ((with_reducible first | refine zR ?_ ?_ | refine zW mixed ?_ ?_); exact kr) | ((with_reducible apply zK); exact rfl; exact tf) | ((with_reducible apply zCD); exact rfl) | ((with_reducible apply zCN); exact rfl) | ((with_reducible apply zC); exact rfl) | ((with_reducible refine zX ?_ ?_); exact rfl) | ((with_reducible refine zE (And.intro ?_ ?_)); exact kr) | (with_reducible refine zE ?_) | ((with_reducible apply zP); exact dp) | ((with_reducible apply zN); exact dn) | ((with_reducible apply zA); exact da) | ((with_reducible apply zS); exact ds) | ((with_reducible apply zY); exact rfl; exact rfl; exact tf) | ((with_reducible apply zG); exact rfl; exact rfl; exact tf) | ((with_reducible apply zU); exact rfl; exact rfl) | ((with_reducible apply zD); exact rfl; exact rfl) | ((with_reducible apply zB); exact rfl; exact rfl)))
    refine awp_yield hI (pre := [_, _]) (post := [_]) (by rfl) (by kernel_rfl) k _ (yas_get hk hN) ?_
    (repeat' (first | (with_reducible first | intro hg | refine mv (by constructor) ?_) | ((with_reducible first | refine zR ?_ ?_ | refine zW mixed ?_ ?_); exact kr) | ((with_reducible apply zK); exact rfl; exact tf) | ((with_reducible apply zCD); exact rfl) | ((with_reducible apply zCN); exact rfl) | ((with_reducible apply zC); exact rfl) | ((with_reducible refine zX ?_ ?_); exact rfl) | ((with_reducible refine zE (And.intro ?_ ?_)); exact kr) | (with_reducible refine zE ?_) | ((with_reducible apply zP); exact dp) | ((with_reducible apply zN); exact dn) | ((with_reducible apply zA); exact da) | ((with_reducible apply zS); exact ds) | ((with_reducible apply zY); exact rfl; exact rfl; exact tf) | ((with_reducible apply zG); exact rfl; exact rfl; exact tf) | ((with_reducible apply zU); exact rfl; exact rfl) | ((with_reducible apply zD); exact rfl; exact rfl) | ((with_reducible apply zB); exact rfl; exact rfl)))
    refine ⟨rfl, .sl rfl rfl rfl (ivs_flat N), rfl, ?_, ?_⟩
    rotate_left
    · (repeat' (first | (with_reducible first | intro hg | refine mv (by constructor) ?_) | ((with_reducible first | refine zR ?_ ?_ | refine zW mixed ?_ ?_); exact kr) | ((with_reducible apply zK); exact rfl; exact tf) | ((with_reducible apply zCD); exact rfl) | ((with_reducible apply zCN); exact rfl) | ((with_reducible apply zC); exact rfl) | ((with_reducible refine zX ?_ ?_); exact rfl) | ((with_reducible refine zE (And.intro ?_ ?_)); exact kr) | (with_reducible refine zE ?_) | ((with_reducible apply zP); exact dp) | ((with_reducible apply zN); exact dn) | ((with_reducible apply zA); exact da) | ((with_reducible apply zS); exact ds) | ((with_reducible apply zY); exact rfl; exact rfl; exact tf) | ((with_reducible apply zG); exact rfl; exact rfl; exact tf) | ((with_reducible apply zU); exact rfl; exact rfl) | ((with_reducible apply zD); exact rfl; exact rfl) | ((with_reducible apply zB); exact rfl; exact rfl)))
      exact .inr ⟨_, rfl⟩
    (repeat' (first | (with_reducible first | intro hg | refine mv (by constructor) ?_) | ((with_reducible first | refine zR ?_ ?_ | refine zW mixed ?_ ?_); exact kr) | ((with_reducible apply zK); exact rfl; exact tf) | ((with_reducible apply zCD); exact rfl) | ((with_reducible apply zCN); exact rfl) | ((with_reducible apply zC); exact rfl) | ((with_reducible refine zX ?_ ?_); exact rfl) | ((with_reducible refine zE (And.intro ?_ ?_)); exact kr) | (with_reducible refine zE ?_) | ((with_reducible apply zP); exact dp) | ((with_reducible apply zN); exact dn) | ((with_reducible apply zA); exact da) | ((with_reducible apply zS); exact ds) | ((with_reducible apply zY); exact rfl; exact rfl; exact tf) | ((with_reducible apply zG); exact rfl; exact rfl; exact tf) | ((with_reducible apply zU); exact rfl; exact rfl) | ((with_reducible apply zD); exact rfl; exact rfl) | ((with_reducible apply zB); exact rfl; exact rfl)))
    have hsm := hc.small N (by rw [← hN, List.getD_eq_getElem?_getD, List.getElem?_eq_getElem hk]; exact List.getElem_mem hk)
    have hst : k + 1 < L.length → nextS A N = some (L.getD (k + 1) []) := fun h => by rw [← hN]; exact hc.step k h
    have hla : k + 1 = L.length → nextS A N = none := fun h => by have := hc.last; rw [← h, Nat.add_sub_cancel, hN] at this; exact this
    refine awp_loopL (α := Nat) (fun j => [(1, .d (.val (.func (.yield l) #[] #[]))), (2, .ptr 2 0), (4, .lsl 21 0 A.length 1), (7, .d (I (idxV j))), (VG, cntV (k + 1))]) (fun j => [(2, ⟨116, rulC T A⟩), (21, ⟨3, ivs (N.take j ++ (A.drop j).map Act3.lo)⟩)])
      (fun j => j ≤ A.length ∧ tops A N j) (fun j => j) A.length ⟨Nat.le_refl _, fun j h1 h2 => by omega⟩ (And.intro rfl (And.intro rfl (And.intro rfl (And.intro (congrArg (fun n => AV.d (I n)) (idxV_pred _)) (And.intro (rfl) trivial))))) (And.intro rfl (And.intro (by rw [List.take_of_length_le (by omega), List.drop_length]; simp; rfl) trivial)) fun j ⟨hj, ht⟩ => ?_
    rcases j with _ | i
    · have e0 : idxV 0 = -1 := rfl
      have hend : k + 1 = L.length := by
        rcases Nat.lt_or_ge (k + 1) L.length with h | h
        · rw [nextS_none A N hlen ht] at hst; exact absurd (hst h) (by simp)
        · omega
      (repeat' (first | (with_reducible first | intro hg | refine mv (by constructor) ?_) | ((with_reducible first | refine zR ?_ ?_ | refine zW mixed ?_ ?_); exact kr) | ((with_reducible apply zK); exact rfl; exact tf) | ((with_reducible apply zCD); exact rfl) | ((with_reducible apply zCN); exact rfl) | ((with_reducible apply zC); exact rfl) | ((with_reducible refine zX ?_ ?_); exact rfl) | ((with_reducible refine zE (And.intro ?_ ?_)); exact kr) | (with_reducible refine zE ?_) | ((with_reducible apply zP); exact dp) | ((with_reducible apply zN); exact dn) | ((with_reducible apply zA); exact da) | ((with_reducible apply zS); exact ds) | ((with_reducible apply zY); exact rfl; exact rfl; exact tf) | ((with_reducible apply zG); exact rfl; exact rfl; exact tf) | ((with_reducible apply zU); exact rfl; exact rfl) | ((with_reducible apply zD); exact rfl; exact rfl) | ((with_reducible apply zB); exact rfl; exact rfl)))
      exact .inl ⟨rfl, by show cntV (k + 1) = cntV (yas A L).length; rw [hend]; simp [yas]⟩
    · have e0 : idxV (i + 1) = i := rfl
      have hi : i < N.length := by omega
      have hia : i < A.length := by omega
      have hnm := nth_mid N ((A.drop (i + 1)).map Act3.lo) i hi
      have hsb := hsm _ (nth_mem hi)
      have hMl : (N.take (i + 1) ++ (A.drop (i + 1)).map Act3.lo).length = A.length := by simp; omega
      have hab := hb _ (act_mem hia)
      generalize hM : N.take (i + 1) ++ (A.drop (i + 1)).map Act3.lo = M at *
      (repeat' (first | (with_reducible first | intro hg | refine mv (by constructor) ?_) | ((with_reducible first | refine zR ?_ ?_ | refine zW mixed ?_ ?_); exact kr) | ((with_reducible apply zK); exact rfl; exact tf) | ((with_reducible apply zCD); exact rfl) | ((with_reducible apply zCN); exact rfl) | ((with_reducible apply zC); exact rfl) | ((with_reducible refine zX ?_ ?_); exact rfl) | ((with_reducible refine zE (And.intro ?_ ?_)); exact kr) | (with_reducible refine zE ?_) | ((with_reducible apply zP); (first | exact o_indexF a0 actC_len (by decide) rfl rfl (by omega) rfl | exact o_indexL (o := i) rfl rfl (by omega) (by omega) (by show 0 + ((i : Nat) : Int).toNat * 1 = i; simp) | exact dp)) | ((with_reducible apply zN); exact dn) | ((with_reducible apply zA); exact da) | ((with_reducible apply zS); (first | exact o_storeLI rfl rfl rfl (by omega) | exact ds)) | ((with_reducible apply zY); exact rfl; exact rfl; exact tf) | ((with_reducible apply zG); exact rfl; exact rfl; exact tf) | ((with_reducible apply zU); exact rfl; exact rfl) | ((with_reducible apply zD); exact rfl; exact rfl) | ((with_reducible apply zB); exact rfl; exact rfl)))
      · refine ⟨i, ⟨by omega, fun j h1 h2 => ?_⟩, by omega, (And.intro rfl (And.intro rfl (And.intro rfl (And.intro (congrArg (fun n => AV.d (I n)) (idxV_pred i)) (And.intro (rfl) trivial))))), (And.intro rfl (And.intro (congrArg (fun l => some (Blk.mk _ (ivs l))) (by rw [← hM, set_mid _ N _ i hi, drop_act hia])) trivial))⟩
        rcases Nat.lt_or_ge i j with h | h
        · exact ht j h h2
        · rw [show j = i by omega, ← hnm]; exact hg
      · have hnx := nextS_some A N i hlen hia ht (by rw [← hnm]; exact hg)
        have hk1 : k + 1 < L.length := by
          rcases Nat.lt_or_ge (k + 1) L.length with h | h
          · exact h
          · rw [hla (by omega)] at hnx; cases hnx
        have hLk := (hst hk1).symm.trans hnx
        injection hLk with hLk
        exact ⟨k + 1, hk1, by omega, (And.intro rfl (And.intro rfl (And.intro rfl (And.intro rfl trivial)))), (And.intro rfl (And.intro (congrArg (fun l => some (Blk.mk _ (ivs l))) (by rw [hLk, ← hM, set_mid _ N _ i hi, hM, hnm])) trivial))⟩

end Go.Proofs.YtagpmpbmfjaiiaaGreatDoor

/- Walks of flat: rules, deviations, the maximum. -/
namespace Go.Proofs.YtagpmpbmfjaiiaaGreatDoor
open Go.RowKit
set_option maxRecDepth 20000

/-- The error of an actuator for so many positions. -/
def actE (n : Int) (a : Act3) : Int := fst0 [unl (inR a.lo (-10) 10 && inR a.hi (-10) 10) 2, unl (decide (a.lo ≤ a.hi)) 9, unl (decide ((a.eff.length : Int) = n)) 10, unl (!(a.eff.any fun x => !inR x (-1000) 1000)) 2]
theorem actorErr_A (a : Act3) (n : Int) (hm : a.eff.length ≤ 140737488355328) : AC Tryz.prog 99 [.agg (actC a), I n] (I (actE n a)) := by
  have h1 := sized_A 1000
  have h2 := allSized_A a.eff 2 1000 ⟨by decide, by decide⟩ hm
  refine ac_body Tryz.func99 rfl (by kernel_rfl) fun w0 ok => ?_; show AWp _ (ctx0 w0 ok _) _ (ARet _ _ _) (entry _)
  (repeat' (first | (with_reducible first | intro hg | refine mv (by constructor) ?_) | ((with_reducible first | refine zR ?_ ?_ | refine zW mixed ?_ ?_); exact kr) | ((with_reducible apply zK); exact rfl; exact tf) | ((with_reducible apply zCD); exact rfl) | ((with_reducible apply zCN); exact rfl) | ((with_reducible apply zC); exact rfl) | ((with_reducible refine zX ?_ ?_); exact rfl) | ((with_reducible refine zE (And.intro ?_ ?_)); exact kr) | (with_reducible refine zE ?_) | ((with_reducible apply zP); (first | exact dp | exact oc rfl (small_A _ _ ⟨by decide, by decide⟩) | exact oc rfl (unless_A _ _) | exact oc rfl (h1) | exact oc rfl (h2) | exact oc rfl (first4_A _ _ _ _))) | ((with_reducible apply zN); exact dn) | ((with_reducible apply zA); exact da) | ((with_reducible apply zS); exact ds) | ((with_reducible apply zY); exact rfl; exact rfl; exact tf) | ((with_reducible apply zG); exact rfl; exact rfl; exact tf) | ((with_reducible apply zU); exact rfl; exact rfl) | ((with_reducible apply zD); exact rfl; exact rfl) | ((with_reducible apply zB); exact rfl; exact rfl)))
  all_goals
    ((with_reducible first | apply q_retR | apply q_retN); exact rl)
    refine rt_int ?_
    unfold actE
    rw [hg]
    rfl
def actsE (n : Int) : List Act3 → Nat → Int × Int
  | [], _ => (0, 0)
  | a :: A, k => bif actE n a == 0 then actsE n A (k + 1) else ((k : Int), actE n a)
theorem actsE_zero {n : Int} {a : Act3} (h : actE n a = 0) (A : List Act3) (k : Nat) : actsE n (a :: A) k = actsE n A (k + 1) := by
  have : (actE n a == 0) = true := by rw [h]; rfl
  show (bif actE n a == 0 then _ else _) = _
  rw [this]; rfl
theorem actsE_ne {n : Int} {a : Act3} (h : actE n a ≠ 0) (A : List Act3) (k : Nat) : actsE n (a :: A) k = ((k : Int), actE n a) := by
  have : (actE n a == 0) = false := beq_eq_false_iff_ne.2 h
  show (bif actE n a == 0 then _ else _) = _
  rw [this]; rfl
def rulH (T : List Int) (A : List Act3) : Int := fst0 [unl (decide (0 < (T.length : Int))) 10, unl (decide ((T.length : Int) ≤ 9)) 8, unl (!(T.any fun x => !inR x (-100000) 100000)) 2, unl (decide (0 < (A.length : Int))) 10, unl (decide ((A.length : Int) ≤ 3)) 8]
/-- The error of rules, and at which actuator. -/
def rulE (T : List Int) (A : List Act3) : Int × Int := bif rulH T A == 0 then actsE T.length A 0 else (0, rulH T A)
/-- Rules and numbers of lengths that lie in memory. -/
def LenOk (T : List Int) (A : List Act3) : Prop := T.length ≤ 140737488355328 ∧ A.length ≤ 140737488355328 ∧ ∀ a ∈ A, a.eff.length ≤ 140737488355328
theorem drop_getA {A : List Act3} {k : Nat} (h : k < A.length) : A.drop k = A.getD k a0 :: A.drop (k + 1) := by
  rw [List.getD_eq_getElem?_getD, List.getElem?_eq_getElem h, List.drop_eq_getElem_cons h]; rfl
theorem checkRules_A (T : List Int) (A : List Act3) (hl : LenOk T A) : AC Tryz.prog 55 [rulV T A] (.tuple [I (rulE T A).1, I (rulE T A).2]) := by
  obtain ⟨hT, hA, hE⟩ := hl
  have h1 := sized_A 100000
  have h2 := allSized_A T 2 100000 ⟨by decide, by decide⟩ hT
  refine ac_body Tryz.func55 rfl (by kernel_rfl) fun w0 ok => ?_; show AWp _ (ctx0 w0 ok _) _ (ARet _ _ _) (entry _)
  (repeat' (first | (with_reducible first | intro hg | refine mv (by constructor) ?_) | ((with_reducible first | refine zR ?_ ?_ | refine zW mixed ?_ ?_); exact kr) | ((with_reducible apply zK); exact rfl; exact tf) | ((with_reducible apply zCD); exact rfl) | ((with_reducible apply zCN); exact rfl) | ((with_reducible apply zC); exact rfl) | ((with_reducible refine zX ?_ ?_); exact rfl) | ((with_reducible refine zE (And.intro ?_ ?_)); exact kr) | (with_reducible refine zE ?_) | ((with_reducible apply zP); (first | exact dp | exact oc rfl (unless_A _ _) | exact oc rfl (h1) | exact oc rfl (h2) | exact oc rfl (first5_A _ _ _ _ _))) | ((with_reducible apply zN); exact dn) | ((with_reducible apply zA); exact da) | ((with_reducible apply zS); exact ds) | ((with_reducible apply zY); exact rfl; exact rfl; exact tf) | ((with_reducible apply zG); exact rfl; exact rfl; exact tf) | ((with_reducible apply zU); exact rfl; exact rfl) | ((with_reducible apply zD); exact rfl; exact rfl) | ((with_reducible apply zB); exact rfl; exact rfl)))
  · ((with_reducible first | apply q_retR | apply q_retN); exact rl)
    have hg : rulH T A ≠ 0 := hg
    have : (rulH T A == 0) = false := by simp [hg]
    unfold rulE
    rw [this]
    rfl
  have hg : rulH T A = 0 := Decidable.not_not.1 hg
  have hr : rulE T A = actsE T.length A 0 := by unfold rulE; rw [hg]; rfl
  refine awp_loopL (α := Nat) (fun k => [(1, .ptr 1 0), (38, .d (actS A)), (39, .d (I A.length)), (40, .d (I k))]) (fun k => [(1, ⟨25, rulC T A⟩)]) (fun k => k ≤ A.length ∧ actsE T.length (A.drop k) k = rulE T A) (fun k => A.length - k) 0 ⟨Nat.zero_le _, hr.symm⟩ (And.intro rfl (And.intro rfl (And.intro rfl (And.intro rfl trivial)))) (And.intro rfl trivial) fun k ⟨hk, hd⟩ => ?_
  by_cases hlt : k < A.length
  · have hb := hE _ (act_mem hlt)
    have ha := actorErr_A (A.getD k a0) T.length hb
    rw [drop_getA hlt] at hd
    by_cases hz : actE T.length (A.getD k a0) = 0
    · rw [hz] at ha
      (repeat' (first | (with_reducible first | intro hg | refine mv (by constructor) ?_) | ((with_reducible first | refine zR ?_ ?_ | refine zW mixed ?_ ?_); exact kr) | ((with_reducible apply zK); exact rfl; exact tf) | ((with_reducible apply zCD); exact rfl) | ((with_reducible apply zCN); exact rfl) | ((with_reducible apply zC); exact rfl) | ((with_reducible refine zX ?_ ?_); exact rfl) | ((with_reducible refine zE (And.intro ?_ ?_)); exact kr) | (with_reducible refine zE ?_) | ((with_reducible apply zP); (first | exact o_indexF a0 actC_len (by decide) rfl rfl (by omega) rfl | exact dp | exact oc rfl (ha))) | ((with_reducible apply zN); exact dn) | ((with_reducible apply zA); exact da) | ((with_reducible apply zS); exact ds) | ((with_reducible apply zY); exact rfl; exact rfl; exact tf) | ((with_reducible apply zG); exact rfl; exact rfl; exact tf) | ((with_reducible apply zU); exact rfl; exact rfl) | ((with_reducible apply zD); exact rfl; exact rfl) | ((with_reducible apply zB); exact rfl; exact rfl)))
      exact ⟨k + 1, ⟨hlt, by rw [← hd, actsE_zero hz]⟩, by omega, (And.intro rfl (And.intro rfl (And.intro rfl (And.intro rfl trivial)))), (And.intro rfl trivial)⟩
    · (repeat' (first | (with_reducible first | intro hg | refine mv (by constructor) ?_) | ((with_reducible first | refine zR ?_ ?_ | refine zW mixed ?_ ?_); exact kr) | ((with_reducible apply zK); exact rfl; exact tf) | ((with_reducible apply zCD); exact rfl) | ((with_reducible apply zCN); exact rfl) | ((with_reducible apply zC); exact rfl) | ((with_reducible refine zX ?_ ?_); exact rfl) | ((with_reducible refine zE (And.intro ?_ ?_)); exact kr) | (with_reducible refine zE ?_) | ((with_reducible apply zP); (first | exact o_indexF a0 actC_len (by decide) rfl rfl (by omega) rfl | exact dp | exact oc rfl (ha))) | ((with_reducible apply zN); exact dn) | ((with_reducible apply zA); exact da) | ((with_reducible apply zS); exact ds) | ((with_reducible apply zY); exact rfl; exact rfl; exact tf) | ((with_reducible apply zG); exact rfl; exact rfl; exact tf) | ((with_reducible apply zU); exact rfl; exact rfl) | ((with_reducible apply zD); exact rfl; exact rfl) | ((with_reducible apply zB); exact rfl; exact rfl)))
      ((with_reducible first | apply q_retR | apply q_retN); exact rl)
      rw [← hd, actsE_ne hz]; rfl
  · (repeat' (first | (with_reducible first | intro hg | refine mv (by constructor) ?_) | ((with_reducible first | refine zR ?_ ?_ | refine zW mixed ?_ ?_); exact kr) | ((with_reducible apply zK); exact rfl; exact tf) | ((with_reducible apply zCD); exact rfl) | ((with_reducible apply zCN); exact rfl) | ((with_reducible apply zC); exact rfl) | ((with_reducible refine zX ?_ ?_); exact rfl) | ((with_reducible refine zE (And.intro ?_ ?_)); exact kr) | (with_reducible refine zE ?_) | ((with_reducible apply zP); exact dp) | ((with_reducible apply zN); exact dn) | ((with_reducible apply zA); exact da) | ((with_reducible apply zS); exact ds) | ((with_reducible apply zY); exact rfl; exact rfl; exact tf) | ((with_reducible apply zG); exact rfl; exact rfl; exact tf) | ((with_reducible apply zU); exact rfl; exact rfl) | ((with_reducible apply zD); exact rfl; exact rfl) | ((with_reducible apply zB); exact rfl; exact rfl)))
    ((with_reducible first | apply q_retR | apply q_retN); exact rl)
    rw [← hd, List.drop_of_length_le (by omega)]; rfl
theorem open_A (T : List Int) (A : List Act3) (hl : LenOk T A) : AC Tryz.prog 74 [rulV T A] (.tuple [rulV T A, I (rulE T A).2]) := by
  have h1 := checkRules_A T A hl
  refine ac_body Tryz.func74 rfl (by kernel_rfl) fun w0 ok => ?_; show AWp _ (ctx0 w0 ok _) _ (ARet _ _ _) (entry _)
  (repeat' (first | (with_reducible first | intro hg | refine mv (by constructor) ?_) | ((with_reducible first | refine zR ?_ ?_ | refine zW mixed ?_ ?_); exact kr) | ((with_reducible apply zK); exact rfl; exact tf) | ((with_reducible apply zCD); exact rfl) | ((with_reducible apply zCN); exact rfl) | ((with_reducible apply zC); exact rfl) | ((with_reducible refine zX ?_ ?_); exact rfl) | ((with_reducible refine zE (And.intro ?_ ?_)); exact kr) | (with_reducible refine zE ?_) | ((with_reducible apply zP); (first | exact dp | exact oc rfl (h1))) | ((with_reducible apply zN); exact dn) | ((with_reducible apply zA); exact da) | ((with_reducible apply zS); exact ds) | ((with_reducible apply zY); exact rfl; exact rfl; exact tf) | ((with_reducible apply zG); exact rfl; exact rfl; exact tf) | ((with_reducible apply zU); exact rfl; exact rfl) | ((with_reducible apply zD); exact rfl; exact rfl) | ((with_reducible apply zB); exact rfl; exact rfl)))
  ((with_reducible first | apply q_retR | apply q_retN); exact rl)
  rfl

/-- Valid rules. -/
structure RulOk (T : List Int) (A : List Act3) : Prop where
  t0 : 0 < T.length
  t9 : T.length ≤ 9
  tb : ∀ x ∈ T, -100000 ≤ x ∧ x ≤ 100000
  a0 : 0 < A.length
  a3 : A.length ≤ 3
  b : ∀ a ∈ A, (-10 ≤ a.lo ∧ a.lo ≤ 10) ∧ (-10 ≤ a.hi ∧ a.hi ≤ 10) ∧ a.lo ≤ a.hi ∧ a.eff.length = T.length ∧ ∀ x ∈ a.eff, -1000 ≤ x ∧ x ≤ 1000
/-- A deviation, with the first k actuators alone. -/
def devTo (T : List Int) (A : List Act3) (xs : List Int) (p : Nat) : Nat → Int
  | 0 => nth T p
  | k + 1 => devTo T A xs p k - nth xs k * nth (A.getD k a0).eff p
def devP (T : List Int) (A : List Act3) (xs : List Int) (p : Nat) : Int := devTo T A xs p A.length
/-- Settings for rules. -/
def SetOk (A : List Act3) (xs : List Int) : Prop := xs.length = A.length ∧ ∀ x ∈ xs, -10 ≤ x ∧ x ≤ 10
theorem devTo_bnd {T : List Int} {A : List Act3} {xs : List Int} (h : RulOk T A) (hs : SetOk A xs) {p : Nat} (hp : p < T.length) : ∀ k, k ≤ A.length → (devTo T A xs p k).natAbs ≤ 100000 + 10000 * k
  | 0, _ => by
    have := h.tb _ (nth_mem hp)
    unfold devTo; omega
  | k + 1, hk => by
    have h1 := devTo_bnd h hs hp k (by omega)
    have h2 := hs.2 _ (nth_mem (xs := xs) (k := k) (by rw [hs.1]; omega))
    obtain ⟨_, _, _, h3, h4⟩ := h.b _ (act_mem (A := A) (k := k) (by omega))
    have h5 := h4 _ (nth_mem (xs := (A.getD k Go.Proofs.YtagpmpbmfjaiiaaGreatDoor.a0).eff) (k := p) (by omega))
    have h6 := mul_rng (x := nth xs k) (e := nth (A.getD k Go.Proofs.YtagpmpbmfjaiiaaGreatDoor.a0).eff p) 10 1000 (by omega) (by omega)
    unfold devTo; omega
theorem deviation_A (T : List Int) (A : List Act3) (xs : List Int) (p : Nat) (h : RulOk T A) (hs : SetOk A xs) (hp : p < T.length) : AC Tryz.prog 106 [rulV T A, isl xs, I p] (I (devP T A xs p)) := by
  have ht9 := h.t9
  have ha3 := h.a3
  have hxl := hs.1
  refine ac_body Tryz.func106 rfl (by kernel_rfl) fun w0 ok => ?_; show AWp _ (ctx0 w0 ok _) _ (ARet _ _ _) (entry _)
  (repeat' (first | (with_reducible first | intro hg | refine mv (by constructor) ?_) | ((with_reducible first | refine zR ?_ ?_ | refine zW mixed ?_ ?_); exact kr) | ((with_reducible apply zK); exact rfl; exact tf) | ((with_reducible apply zCD); exact rfl) | ((with_reducible apply zCN); exact rfl) | ((with_reducible apply zC); exact rfl) | ((with_reducible refine zX ?_ ?_); exact rfl) | ((with_reducible refine zE (And.intro ?_ ?_)); exact kr) | (with_reducible refine zE ?_) | ((with_reducible apply zP); (first | exact o_indexI (j := p) rfl rfl hp rfl | exact dp)) | ((with_reducible apply zN); exact dn) | ((with_reducible apply zA); exact da) | ((with_reducible apply zS); exact ds) | ((with_reducible apply zY); exact rfl; exact rfl; exact tf) | ((with_reducible apply zG); exact rfl; exact rfl; exact tf) | ((with_reducible apply zU); exact rfl; exact rfl) | ((with_reducible apply zD); exact rfl; exact rfl) | ((with_reducible apply zB); exact rfl; exact rfl)))
  refine awp_loopL (α := Nat) (fun k => [(1, .d (isl xs)), (2, .d (I p)), (7, .d (I (devTo T A xs p k))), (18, .d (actS A)), (19, .d (I A.length)), (20, .d (I k))]) (fun _ => []) (fun k => k ≤ A.length) (fun k => A.length - k) 0 (Nat.zero_le _) (And.intro rfl (And.intro rfl (And.intro rfl (And.intro rfl (And.intro rfl (And.intro rfl trivial)))))) trivial fun k hk => ?_
  by_cases hlt : k < A.length
  · have hb := devTo_bnd h hs hp k hk
    have hb1 := devTo_bnd h hs hp (k + 1) hlt
    obtain ⟨_, _, _, h3, h4⟩ := h.b _ (act_mem hlt)
    have h2 := hs.2 _ (nth_mem (xs := xs) (k := k) (by omega))
    have h5 := h4 _ (nth_mem (xs := (A.getD k a0).eff) (k := p) (by omega))
    have h6 := mul_rng (x := nth xs k) (e := nth (A.getD k a0).eff p) 10 1000 (by omega) (by omega)
    (repeat' (first | (with_reducible first | intro hg | refine mv (by constructor) ?_) | ((with_reducible first | refine zR ?_ ?_ | refine zW mixed ?_ ?_); exact kr) | ((with_reducible apply zK); exact rfl; exact tf) | ((with_reducible apply zCD); exact rfl) | ((with_reducible apply zCN); exact rfl) | ((with_reducible apply zC); exact rfl) | ((with_reducible refine zX ?_ ?_); exact rfl) | ((with_reducible refine zE (And.intro ?_ ?_)); exact kr) | (with_reducible refine zE ?_) | ((with_reducible apply zP); (first | exact o_indexF a0 actC_len (by decide) rfl rfl (by omega) rfl | exact o_indexI (j := k) (xs := xs) rfl rfl (by omega) rfl | exact o_indexI (j := p) (xs := (A.getD k a0).eff) rfl rfl (by omega) rfl | exact dp)) | ((with_reducible apply zN); exact dn) | ((with_reducible apply zA); exact da) | ((with_reducible apply zS); exact ds) | ((with_reducible apply zY); exact rfl; exact rfl; exact tf) | ((with_reducible apply zG); exact rfl; exact rfl; exact tf) | ((with_reducible apply zU); exact rfl; exact rfl) | ((with_reducible apply zD); exact rfl; exact rfl) | ((with_reducible apply zB); exact rfl; exact rfl)))
    exact ⟨k + 1, hlt, by omega, (And.intro rfl (And.intro rfl (And.intro rfl (And.intro rfl (And.intro rfl (And.intro rfl trivial)))))), trivial⟩
  · (repeat' (first | (with_reducible first | intro hg | refine mv (by constructor) ?_) | ((with_reducible first | refine zR ?_ ?_ | refine zW mixed ?_ ?_); exact kr) | ((with_reducible apply zK); exact rfl; exact tf) | ((with_reducible apply zCD); exact rfl) | ((with_reducible apply zCN); exact rfl) | ((with_reducible apply zC); exact rfl) | ((with_reducible refine zX ?_ ?_); exact rfl) | ((with_reducible refine zE (And.intro ?_ ?_)); exact kr) | (with_reducible refine zE ?_) | ((with_reducible apply zP); exact dp) | ((with_reducible apply zN); exact dn) | ((with_reducible apply zA); exact da) | ((with_reducible apply zS); exact ds) | ((with_reducible apply zY); exact rfl; exact rfl; exact tf) | ((with_reducible apply zG); exact rfl; exact rfl; exact tf) | ((with_reducible apply zU); exact rfl; exact rfl) | ((with_reducible apply zD); exact rfl; exact rfl) | ((with_reducible apply zB); exact rfl; exact rfl)))
    ((with_reducible first | apply q_retR | apply q_retN); exact rl)
    exact rt_int (by unfold devP; rw [show k = A.length by omega])
/-- The maximum, of the first k positions. -/
def maxTo (T : List Int) (A : List Act3) (xs : List Int) : Nat → Int
  | 0 => 0
  | k + 1 => max (maxTo T A xs k) (devP T A xs k).natAbs
def maxP (T : List Int) (A : List Act3) (xs : List Int) : Int := maxTo T A xs T.length
theorem maxTo_bnd {T : List Int} {A : List Act3} {xs : List Int} (h : RulOk T A) (hs : SetOk A xs) : ∀ k, k ≤ T.length → 0 ≤ maxTo T A xs k ∧ maxTo T A xs k ≤ 130000
  | 0, _ => by unfold maxTo; omega
  | k + 1, hk => by
    have h1 := maxTo_bnd h hs k (by omega)
    have h2 := devTo_bnd h hs (p := k) (by omega) A.length (Nat.le_refl _)
    have h3 := h.a3
    unfold maxTo devP; omega
theorem maximum_A (T : List Int) (A : List Act3) (xs : List Int) (h : RulOk T A) (hs : SetOk A xs) : AC Tryz.prog 76 [rulV T A, isl xs] (I (maxP T A xs)) := by
  have ht9 := h.t9
  have ha3 := h.a3
  refine ac_body Tryz.func76 rfl (by kernel_rfl) fun w0 ok => ?_; show AWp _ (ctx0 w0 ok _) _ (ARet _ _ _) (entry _)
  (repeat' (first | (with_reducible first | intro hg | refine mv (by constructor) ?_) | ((with_reducible first | refine zR ?_ ?_ | refine zW mixed ?_ ?_); exact kr) | ((with_reducible apply zK); exact rfl; exact tf) | ((with_reducible apply zCD); exact rfl) | ((with_reducible apply zCN); exact rfl) | ((with_reducible apply zC); exact rfl) | ((with_reducible refine zX ?_ ?_); exact rfl) | ((with_reducible refine zE (And.intro ?_ ?_)); exact kr) | (with_reducible refine zE ?_) | ((with_reducible apply zP); exact dp) | ((with_reducible apply zN); exact dn) | ((with_reducible apply zA); exact da) | ((with_reducible apply zS); exact ds) | ((with_reducible apply zY); exact rfl; exact rfl; exact tf) | ((with_reducible apply zG); exact rfl; exact rfl; exact tf) | ((with_reducible apply zU); exact rfl; exact rfl) | ((with_reducible apply zD); exact rfl; exact rfl) | ((with_reducible apply zB); exact rfl; exact rfl)))
  refine awp_loopL (α := Nat) (fun k => [(1, .d (isl xs)), (2, .ptr 2 0), (5, .d (I (maxTo T A xs k))), (10, .d (I T.length)), (11, .d (I k))]) (fun _ => [(2, ⟨116, rulC T A⟩)]) (fun k => k ≤ T.length) (fun k => T.length - k) 0 (Nat.zero_le _) (And.intro rfl (And.intro rfl (And.intro rfl (And.intro rfl (And.intro rfl trivial))))) (And.intro rfl trivial) fun k hk => ?_
  by_cases hlt : k < T.length
  · have hb := maxTo_bnd h hs k hk
    have hb2 := devTo_bnd h hs hlt A.length (Nat.le_refl _)
    have hdv := deviation_A T A xs k h hs hlt
    have hsz := size_A (devP T A xs k) ⟨by unfold devP; omega, by unfold devP; omega⟩
    (repeat' (first | (with_reducible first | intro hg | refine mv (by constructor) ?_) | ((with_reducible first | refine zR ?_ ?_ | refine zW mixed ?_ ?_); exact kr) | ((with_reducible apply zK); exact rfl; exact tf) | ((with_reducible apply zCD); exact rfl) | ((with_reducible apply zCN); exact rfl) | ((with_reducible apply zC); exact rfl) | ((with_reducible refine zX ?_ ?_); exact rfl) | ((with_reducible refine zE (And.intro ?_ ?_)); exact kr) | (with_reducible refine zE ?_) | ((with_reducible apply zP); (first | exact dp | exact oc rfl (hdv) | exact oc rfl (hsz))) | ((with_reducible apply zN); exact dn) | ((with_reducible apply zA); exact da) | ((with_reducible apply zS); exact ds) | ((with_reducible apply zY); exact rfl; exact rfl; exact tf) | ((with_reducible apply zG); exact rfl; exact rfl; exact tf) | ((with_reducible apply zU); exact rfl; exact rfl) | ((with_reducible apply zD); exact rfl; exact rfl) | ((with_reducible apply zB); exact rfl; exact rfl)))
    exact ⟨k + 1, hlt, by omega, (And.intro rfl (And.intro rfl (And.intro rfl (And.intro rfl (And.intro rfl trivial))))), (And.intro rfl trivial)⟩
  · (repeat' (first | (with_reducible first | intro hg | refine mv (by constructor) ?_) | ((with_reducible first | refine zR ?_ ?_ | refine zW mixed ?_ ?_); exact kr) | ((with_reducible apply zK); exact rfl; exact tf) | ((with_reducible apply zCD); exact rfl) | ((with_reducible apply zCN); exact rfl) | ((with_reducible apply zC); exact rfl) | ((with_reducible refine zX ?_ ?_); exact rfl) | ((with_reducible refine zE (And.intro ?_ ?_)); exact kr) | (with_reducible refine zE ?_) | ((with_reducible apply zP); exact dp) | ((with_reducible apply zN); exact dn) | ((with_reducible apply zA); exact da) | ((with_reducible apply zS); exact ds) | ((with_reducible apply zY); exact rfl; exact rfl; exact tf) | ((with_reducible apply zG); exact rfl; exact rfl; exact tf) | ((with_reducible apply zU); exact rfl; exact rfl) | ((with_reducible apply zD); exact rfl; exact rfl) | ((with_reducible apply zB); exact rfl; exact rfl)))
    ((with_reducible first | apply q_retR | apply q_retN); exact rl)
    exact rt_int (by unfold maxP; rw [show k = T.length by omega])

end Go.Proofs.YtagpmpbmfjaiiaaGreatDoor

/- The best settings. -/
namespace Go.Proofs.YtagpmpbmfjaiiaaGreatDoor
open Go.RowKit
set_option maxRecDepth 20000

def bst (f : List Int → Int) : Option (List Int × Int) → List Int → Option (List Int × Int)
  | none, l => some (l, f l)
  | some (b, n), l => bif decide (f l < n) then some (l, f l) else some (b, n)
def bstK (f : List Int → Int) (L : List (List Int)) (k : Nat) : Option (List Int × Int) := (L.take k).foldl (bst f) none
theorem bstK_succ (f : List Int → Int) {L : List (List Int)} {k : Nat} {N : List Int} (hk : k < L.length) (h : L.getD k [] = N) : bstK f L (k + 1) = bst f (bstK f L k) N := by
  unfold bstK
  rw [List.getD_eq_getElem?_getD, List.getElem?_eq_getElem hk] at h
  rw [List.take_add_one, List.getElem?_eq_getElem hk, List.foldl_append, show L[k] = N from h]
  rfl
def bestC : Option (List Int × Int) → DV
  | none => nilV
  | some (b, _) => isl b
def leastC : Option (List Int × Int) → Int
  | none => 0
  | some (_, n) => n
theorem yas_at {A : List Act3} {L : List (List Int)} {k : Nat} {d : YA} (h : (yas A L)[k]? = some d) : k < L.length ∧ d = .sl 3 (ivs (L.getD k [])) A.length 1 := by
  rw [List.getElem?_map] at h
  obtain ⟨l, h1, h2⟩ := Option.map_eq_some_iff.1 h
  obtain ⟨h3, h4⟩ := List.getElem?_eq_some_iff.1 h1
  refine ⟨h3, ?_⟩
  rw [← h2, List.getD_eq_getElem?_getD, h1]; rfl
theorem RulOk.acts {T : List Int} {A : List Act3} (h : RulOk T A) : ActsOk A := ⟨by have := h.a3; omega, fun a ha => by obtain ⟨h1, h2, _⟩ := h.b a ha; omega⟩
/-- All settings of valid rules. -/
structure SetsOk (A : List Act3) (L : List (List Int)) : Prop where
  chain : ChainS A L
  ok : ∀ l ∈ L, SetOk A l

theorem best_A (T : List Int) (A : List Act3) (L : List (List Int)) (h : RulOk T A) (hL : SetsOk A L) (he : rulE T A = (0, 0)) :
    AC Tryz.prog 40 [rulV T A] (.tuple [bestC (bstK (maxP T A) L L.length), I (leastC (bstK (maxP T A) L L.length)), I 0]) := by
  have hlo : LenOk T A := ⟨by have := h.t9; omega, by have := h.a3; omega, fun a ha => by have := (h.b a ha).2.2.2.1; have := h.t9; omega⟩
  have hop := open_A T A hlo
  rw [he] at hop
  refine ac_body Tryz.func40 rfl (by kernel_rfl) fun w0 ok => ?_; show AWp _ (ctx0 w0 ok _) _ (ARet _ _ _) (entry _)
  (repeat' (first | (with_reducible first | intro hg | refine mv (by constructor) ?_) | ((with_reducible first | refine zR ?_ ?_ | refine zW mixed ?_ ?_); exact kr) | ((with_reducible apply zK); exact rfl; exact tf) | ((with_reducible apply zCD); exact rfl) | ((with_reducible apply zCN); exact rfl) | ((with_reducible apply zC); exact rfl) | ((with_reducible refine zX ?_ ?_); exact rfl) | ((with_reducible refine zE (And.intro ?_ ?_)); exact kr) | (with_reducible refine zE ?_) | ((with_reducible apply zP); (first | exact o_makeFuncB rfl rfl | exact dp | exact oc rfl (hop))) | ((with_reducible apply zN); exact dn) | ((with_reducible apply zA); exact da) | ((with_reducible apply zS); exact ds) | ((with_reducible apply zY); exact rfl; exact rfl; exact tf) | ((with_reducible apply zG); exact rfl; exact rfl; exact tf) | ((with_reducible apply zU); exact rfl; exact rfl) | ((with_reducible apply zD); exact rfl; exact rfl) | ((with_reducible apply zB); exact rfl; exact rfl)))
  refine awp_rangeFunc (psl := [21]) (bs := [rulV T A]) (caps := []) (fin := true) (xs := yas A L) (fun k (y : Option (List Int × Int)) => ⟨frL [(5, .ptr 5 0), (7, .ptr 7 0), (8, .ptr 8 0)], memL [(5, ⟨116, rulC T A⟩), (7, ⟨22, [bestC y]⟩), (8, ⟨3, [I (leastC y)]⟩)]⟩)
    (fun k y => y = bstK (maxP T A) L k ∧ ∀ b n, y = some (b, n) → b ≠ []) none (EntI.eq (P := Tryz.prog) (f := 75)) (.fn rfl) (settings_A T A L hL.chain h.a0 h.acts) ⟨rfl, fun b n e => by cases e⟩ (le_of (And.intro rfl (And.intro rfl (And.intro rfl trivial))) (And.intro rfl (And.intro rfl (And.intro rfl trivial)))) (by decide) (fun d hd => by obtain ⟨l, _, rfl⟩ := List.mem_map.1 hd; rfl) (fun k y d ⟨hI, hI2⟩ hd W ok' rd ex gv => ?_) (by simp) (fun _ y ⟨hI, hI2⟩ => ?_)
  · obtain ⟨hk, rfl⟩ := yas_at hd
    have hmem : L.getD k [] ∈ L := by rw [List.getD_eq_getElem?_getD, List.getElem?_eq_getElem hk]; exact List.getElem_mem hk
    have hso := hL.ok _ hmem
    have hsucc := bstK_succ (maxP T A) hk rfl
    generalize L.getD k [] = N at *
    have hmx := maximum_A T A N h hso
    have hmb := maxTo_bnd h hso T.length (Nat.le_refl _)
    have hNl := hso.1
    have ha0 := h.a0
    have ha3 := h.a3
    have hcl := clone_A N (by omega) (fun e => by rw [e] at hNl; simp at hNl; omega)
    rw [hNl] at hcl
    rw [show (isl N : DV) = .slice A.length (ivs N) by rw [← hNl]] at hmx hcl
    refine awp_cut [(21, .lsl YN 0 A.length 1), (1999999, .lsl YN 0 A.length 1), (5, .ptr 5 0), (7, .ptr 7 0), (8, .ptr 8 0), (1000005, .ptr 5 0), (1000007, .ptr 7 0), (1000008, .ptr 8 0)] [(5, ⟨116, rulC T A⟩), (7, ⟨22, [bestC y]⟩), (8, ⟨3, [I (leastC y)]⟩), (YN, ⟨3, ivs N⟩)] (And.intro rfl (And.intro rfl (And.intro rfl (And.intro rfl (And.intro rfl (And.intro rfl (And.intro rfl (And.intro rfl trivial)))))))) (And.intro rfl (And.intro rfl (And.intro rfl (And.intro rfl trivial)))) ?_
    have hv : ((ivs N).drop 0).take (A.length * 1) = ivs N := by rw [List.drop_zero, List.take_of_length_le (by simp [ivs]; omega)]
    replace hmx : AC Tryz.prog 76 [rulV T A, .slice A.length (((ivs N).drop 0).take (A.length * 1))] (I (maxP T A N)) := by rw [hv]; exact hmx
    replace hcl : ACo Tryz.prog 77 [.slice A.length (((ivs N).drop 0).take (A.length * 1))] 3 A.length 1 (ivs N) := by rw [hv]; exact hcl
    have hNe : N ≠ [] := fun e => by rw [e] at hNl; simp at hNl; omega
    (repeat' (first | (with_reducible first | intro hg | refine mv (by constructor) ?_) | ((with_reducible first | refine zR ?_ ?_ | refine zW mixed ?_ ?_); exact kr) | ((with_reducible apply zK); exact rfl; exact tf) | ((with_reducible apply zCD); exact rfl) | ((with_reducible apply zCN); exact rfl) | ((with_reducible apply zC); exact rfl) | ((with_reducible refine zX ?_ ?_); exact rfl) | ((with_reducible refine zE (And.intro ?_ ?_)); exact kr) | (with_reducible refine zE ?_) | ((with_reducible apply zP); exact dp) | ((with_reducible apply zN); exact dn) | ((with_reducible apply zA); exact da) | ((with_reducible apply zS); exact ds) | ((with_reducible apply zY); exact rfl; exact rfl; exact tf) | ((with_reducible apply zG); exact rfl; exact rfl; exact tf) | ((with_reducible apply zU); exact rfl; exact rfl) | ((with_reducible apply zD); exact rfl; exact rfl) | ((with_reducible apply zB); exact rfl; exact rfl)))
    refine ⟨rfl, fun W' => ?_⟩
    rw [← hI] at hsucc
    have he7 : some (Blk.mk 22 [DV.slice A.length (ivs N)]) = some (Blk.mk 22 [isl N]) := congrArg (fun n => some (Blk.mk _ [DV.slice n (ivs N)])) hNl.symm
    rcases y with _ | ⟨b, n⟩
    · (repeat' (first | (with_reducible first | intro hg | refine mv (by constructor) ?_) | ((with_reducible first | refine zR ?_ ?_ | refine zW mixed ?_ ?_); exact kr) | ((with_reducible apply zK); exact rfl; exact tf) | ((with_reducible apply zCD); exact rfl) | ((with_reducible apply zCN); exact rfl) | ((with_reducible apply zC); exact rfl) | ((with_reducible refine zX ?_ ?_); exact rfl) | ((with_reducible refine zE (And.intro ?_ ?_)); exact kr) | (with_reducible refine zE ?_) | ((with_reducible apply zP); (first | exact o_callF1 rfl hcl (ivs_flat N) | exact dp | exact oc rfl (hmx))) | ((with_reducible apply zN); exact dn) | ((with_reducible apply zA); exact da) | ((with_reducible apply zS); exact ds) | ((with_reducible apply zY); exact rfl; exact rfl; exact tf) | ((with_reducible apply zG); exact rfl; exact rfl; exact tf) | ((with_reducible apply zU); exact rfl; exact rfl) | ((with_reducible apply zD); exact rfl; exact rfl) | ((with_reducible apply zB); exact rfl; exact rfl)))
      exact ⟨⟨rfl, rfl⟩, some (N, maxP T A N), ⟨hsucc.symm, fun b n e => by cases e; exact hNe⟩, le_of (And.intro rfl (And.intro rfl (And.intro rfl trivial))) (And.intro rfl (And.intro (he7) (And.intro (rfl) trivial)))⟩
    · have hbe := ivs_ne (hI2 b n rfl)
      by_cases hlt : maxP T A N < n
      · have hb : bst (maxP T A) (some (b, n)) N = some (N, maxP T A N) := by show (bif decide (maxP T A N < n) then _ else _) = _; rw [decide_eq_true hlt]; rfl
        (repeat' (first | (with_reducible first | intro hg | refine mv (by constructor) ?_) | ((with_reducible first | refine zR ?_ ?_ | refine zW mixed ?_ ?_); exact kr) | ((with_reducible apply zK); exact rfl; exact tf) | ((with_reducible apply zCD); exact rfl) | ((with_reducible apply zCN); exact rfl) | ((with_reducible apply zC); exact rfl) | ((with_reducible refine zX ?_ ?_); exact rfl) | ((with_reducible refine zE (And.intro ?_ ?_)); exact kr) | (with_reducible refine zE ?_) | ((with_reducible apply zP); (first | exact o_callF1 rfl hcl (ivs_flat N) | exact dp | exact oc rfl (hmx))) | ((with_reducible apply zN); exact dn) | ((with_reducible apply zA); exact da) | ((with_reducible apply zS); exact ds) | ((with_reducible apply zY); exact rfl; exact rfl; exact tf) | ((with_reducible apply zG); exact rfl; exact rfl; exact tf) | ((with_reducible apply zU); exact rfl; exact rfl) | ((with_reducible apply zD); exact rfl; exact rfl) | ((with_reducible apply zB); exact rfl; exact rfl)))
        exact ⟨⟨rfl, rfl⟩, some (N, maxP T A N), ⟨(hsucc.trans hb).symm, fun b n e => by cases e; exact hNe⟩, le_of (And.intro rfl (And.intro rfl (And.intro rfl trivial))) (And.intro rfl (And.intro (he7) (And.intro (rfl) trivial)))⟩
      · have hb : bst (maxP T A) (some (b, n)) N = some (b, n) := by show (bif decide (maxP T A N < n) then _ else _) = _; rw [decide_eq_false hlt]; rfl
        (repeat' (first | (with_reducible first | intro hg | refine mv (by constructor) ?_) | ((with_reducible first | refine zR ?_ ?_ | refine zW mixed ?_ ?_); exact kr) | ((with_reducible apply zK); exact rfl; exact tf) | ((with_reducible apply zCD); exact rfl) | ((with_reducible apply zCN); exact rfl) | ((with_reducible apply zC); exact rfl) | ((with_reducible refine zX ?_ ?_); exact rfl) | ((with_reducible refine zE (And.intro ?_ ?_)); exact kr) | (with_reducible refine zE ?_) | ((with_reducible apply zP); (first | exact o_callF1 rfl hcl (ivs_flat N) | exact dp | exact oc rfl (hmx))) | ((with_reducible apply zN); exact dn) | ((with_reducible apply zA); exact da) | ((with_reducible apply zS); exact ds) | ((with_reducible apply zY); exact rfl; exact rfl; exact tf) | ((with_reducible apply zG); exact rfl; exact rfl; exact tf) | ((with_reducible apply zU); exact rfl; exact rfl) | ((with_reducible apply zD); exact rfl; exact rfl) | ((with_reducible apply zB); exact rfl; exact rfl)))
        exact ⟨⟨rfl, rfl⟩, some (b, n), ⟨(hsucc.trans hb).symm, hI2⟩, le_of (And.intro rfl (And.intro rfl (And.intro rfl trivial))) (And.intro rfl (And.intro rfl (And.intro rfl trivial)))⟩
  · (repeat' (first | (with_reducible first | intro hg | refine mv (by constructor) ?_) | ((with_reducible first | refine zR ?_ ?_ | refine zW mixed ?_ ?_); exact kr) | ((with_reducible apply zK); exact rfl; exact tf) | ((with_reducible apply zCD); exact rfl) | ((with_reducible apply zCN); exact rfl) | ((with_reducible apply zC); exact rfl) | ((with_reducible refine zX ?_ ?_); exact rfl) | ((with_reducible refine zE (And.intro ?_ ?_)); exact kr) | (with_reducible refine zE ?_) | ((with_reducible apply zP); exact dp) | ((with_reducible apply zN); exact dn) | ((with_reducible apply zA); exact da) | ((with_reducible apply zS); exact ds) | ((with_reducible apply zY); exact rfl; exact rfl; exact tf) | ((with_reducible apply zG); exact rfl; exact rfl; exact tf) | ((with_reducible apply zU); exact rfl; exact rfl) | ((with_reducible apply zD); exact rfl; exact rfl) | ((with_reducible apply zB); exact rfl; exact rfl)))
    ((with_reducible first | apply q_retR | apply q_retN); exact rl)
    have hyl : (yas A L).length = L.length := by simp [yas]
    rw [hyl] at hI
    rw [← hI]
    rfl

end Go.Proofs.YtagpmpbmfjaiiaaGreatDoor
