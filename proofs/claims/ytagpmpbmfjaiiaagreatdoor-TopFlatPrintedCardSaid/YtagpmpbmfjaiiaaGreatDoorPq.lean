/- All settings, in lexicographic order. -/
import Derived.Test.YtagpmpbmfjaiiaaGreatDoorPB
set_option linter.unusedVariables false
set_option linter.unusedSimpArgs false
namespace Go.Proofs.YtagpmpbmfjaiiaaGreatDoor
open Go.RowKit
set_option maxRecDepth 20000

def upTo (f : Int → List (List Int)) (x : Int) : Nat → List (List Int)
  | 0 => []
  | n + 1 => f x ++ upTo f (x + 1) n
def cntA (a : Act3) : Nat := (a.hi - a.lo + 1).toNat
def allS : List Act3 → List (List Int)
  | [] => [[]]
  | a :: A => upTo (fun x => (allS A).map (x :: ·)) a.lo (cntA a)
/-- Each one is followed by the next one, the last one by e. -/
def LkS (A : List Act3) : List (List Int) → Option (List Int) → Prop
  | [], _ => True
  | [l], e => nextS A l = e
  | l :: m :: L, e => nextS A l = some m ∧ LkS A (m :: L) e
theorem Lk_append {A : List Act3} {m : List Int} {L2 : List (List Int)} {e : Option (List Int)} (h2 : LkS A (m :: L2) e) : ∀ L1, L1 ≠ [] → LkS A L1 (some m) → LkS A (L1 ++ m :: L2) e
  | [], h, _ => absurd rfl h
  | [l], _, h1 => ⟨h1, h2⟩
  | l :: k :: L, _, h1 => ⟨h1.1, Lk_append h2 (k :: L) (by simp) h1.2⟩
theorem Lk_map {A : List Act3} {a : Act3} {x : Int} : ∀ L, LkS A L none → LkS (a :: A) (L.map (x :: ·)) (if x = a.hi then none else some ((x + 1) :: A.map Act3.lo))
  | [], _ => trivial
  | [l], h => by
    show nextS (a :: A) (x :: l) = _
    have h : nextS A l = none := h
    unfold nextS
    rw [h]
  | l :: m :: L, h => by
    refine ⟨?_, Lk_map (m :: L) h.2⟩
    show nextS (a :: A) (x :: l) = some (x :: m)
    unfold nextS
    rw [h.1]
theorem Lk_step {A : List Act3} {e : Option (List Int)} : ∀ (L : List (List Int)) (k : Nat), LkS A L e → k + 1 < L.length → nextS A (L.getD k []) = some (L.getD (k + 1) [])
  | [], k, _, hk => by simp at hk
  | [l], k, _, hk => by simp at hk
  | l :: m :: L, 0, h, _ => h.1
  | l :: m :: L, k + 1, h, hk => Lk_step (m :: L) k h.2 (by simp at hk ⊢; omega)
theorem Lk_last {A : List Act3} {e : Option (List Int)} : ∀ (L : List (List Int)), LkS A L e → 0 < L.length → nextS A (L.getD (L.length - 1) []) = e
  | [], _, h => by simp at h
  | [l], h, _ => h
  | l :: m :: L, h, _ => by
    have := Lk_last (m :: L) h.2 (by simp)
    simpa using this
def LoHi (A : List Act3) : Prop := ∀ a ∈ A, a.lo ≤ a.hi
theorem upTo_head {f : Int → List (List Int)} {x : Int} {n : Nat} {l : List Int} (h : (f x).head? = some l) : (upTo f x (n + 1)).head? = some l := by
  unfold upTo
  rw [List.head?_append, h]; rfl
theorem allS_head : ∀ (A : List Act3), LoHi A → (allS A).head? = some (A.map Act3.lo)
  | [], _ => rfl
  | a :: A, h => by
    have h1 := allS_head A fun b hb => h b (by simp [hb])
    have h2 := h a (by simp)
    unfold allS
    rw [show cntA a = (a.hi - a.lo).toNat + 1 by unfold cntA; omega]
    refine upTo_head ?_
    rw [List.head?_map, h1]; rfl
theorem head_cons {α : Type} {L : List α} {l : α} (h : L.head? = some l) : ∃ L2, L = l :: L2 := by
  cases L with
  | nil => cases h
  | cons x L => injection h with h; exact ⟨L, by rw [h]⟩
theorem upTo_link {A : List Act3} {a : Act3} {L : List (List Int)} (hL : LkS A L none) (hh : L.head? = some (A.map Act3.lo)) : ∀ (n : Nat) (x : Int), a.hi = x + n → LkS (a :: A) (upTo (fun x => L.map (x :: ·)) x (n + 1)) none
  | 0, x, hx => by
    have h1 := Lk_map (a := a) (x := x) L hL
    rw [if_pos (by omega)] at h1
    show LkS _ (_ ++ []) _
    rw [List.append_nil]; exact h1
  | n + 1, x, hx => by
    have h1 := Lk_map (a := a) (x := x) L hL
    rw [if_neg (by omega)] at h1
    have h2 := upTo_link (a := a) hL hh n (x + 1) (by omega)
    have h3 : (upTo (fun x => L.map (x :: ·)) (x + 1) (n + 1)).head? = some ((x + 1) :: A.map Act3.lo) := upTo_head (by rw [List.head?_map, hh]; rfl)
    obtain ⟨L2, h4⟩ := head_cons h3
    show LkS _ (_ ++ upTo _ (x + 1) (n + 1)) _
    rw [h4] at h2 ⊢
    refine Lk_append h2 _ ?_ h1
    intro he
    obtain ⟨L3, h5⟩ := head_cons hh
    rw [h5] at he
    cases he
theorem allS_link : ∀ (A : List Act3), LoHi A → LkS A (allS A) none
  | [], _ => rfl
  | a :: A, h => by
    have h0 : LoHi A := fun b hb => h b (by simp [hb])
    have h2 := h a (by simp)
    unfold allS
    rw [show cntA a = (a.hi - a.lo).toNat + 1 by unfold cntA; omega]
    exact upTo_link (allS_link A h0) (allS_head A h0) _ _ (by omega)
/-- Numbers in the ranges of the actuators. -/
def InS : List Act3 → List Int → Prop
  | [], [] => True
  | a :: A, x :: xs => (a.lo ≤ x ∧ x ≤ a.hi) ∧ InS A xs
  | _, _ => False
theorem mem_upTo {f : Int → List (List Int)} {l : List Int} : ∀ (n : Nat) (x : Int), l ∈ upTo f x n ↔ ∃ y, x ≤ y ∧ y < x + n ∧ l ∈ f y
  | 0, x => by
    show l ∈ [] ↔ _
    simp
    intro y h1 h2; omega
  | n + 1, x => by
    show l ∈ f x ++ upTo f (x + 1) n ↔ _
    rw [List.mem_append, mem_upTo n (x + 1)]
    constructor
    · rintro (h | ⟨y, h1, h2, h3⟩)
      · exact ⟨x, by omega, by omega, h⟩
      · exact ⟨y, by omega, by omega, h3⟩
    · rintro ⟨y, h1, h2, h3⟩
      by_cases hy : y = x
      · subst hy; exact .inl h3
      · exact .inr ⟨y, by omega, by omega, h3⟩
theorem mem_allS : ∀ (A : List Act3) (l : List Int), l ∈ allS A ↔ InS A l
  | [], l => by
    cases l with
    | nil => simp [allS, InS]
    | cons x l => simp [allS, InS]
  | a :: A, l => by
    unfold allS
    rw [mem_upTo]
    cases l with
    | nil => simp [InS]
    | cons x l =>
      have ih := mem_allS A l
      constructor
      · rintro ⟨y, h1, h2, h3⟩
        obtain ⟨m, h4, h5⟩ := List.mem_map.1 h3
        injection h5 with h5 h6
        subst h5 h6
        unfold cntA at h2
        exact ⟨⟨by omega, by omega⟩, ih.1 h4⟩
      · rintro ⟨⟨h1, h2⟩, h3⟩
        exact ⟨x, h1, by unfold cntA; omega, List.mem_map.2 ⟨l, ih.2 h3, rfl⟩⟩
theorem InS_len : ∀ {A : List Act3} {l : List Int}, InS A l → l.length = A.length
  | [], [], _ => rfl
  | a :: A, x :: xs, h => by simp [InS_len h.2]
theorem InS_mem : ∀ {A : List Act3} {l : List Int}, InS A l → ∀ x ∈ l, ∃ a ∈ A, a.lo ≤ x ∧ x ≤ a.hi
  | [], [], _, x, hx => by simp at hx
  | a :: A, y :: ys, h, x, hx => by
    rcases List.mem_cons.1 hx with rfl | hx
    · exact ⟨a, by simp, h.1⟩
    · obtain ⟨b, hb, h2⟩ := InS_mem h.2 x hx
      exact ⟨b, by simp [hb], h2⟩
theorem allS_ok {T : List Int} {A : List Act3} (h : RulOk T A) : SetsOk A (allS A) := by
  have hlh : LoHi A := fun a ha => (h.b a ha).2.2.1
  have h1 := allS_head A hlh
  have h2 := allS_link A hlh
  obtain ⟨L2, h3⟩ := head_cons h1
  have hpos : 0 < (allS A).length := by rw [h3]; simp
  have hok : ∀ l ∈ allS A, SetOk A l := fun l hl => by
    have hi := (mem_allS A l).1 hl
    refine ⟨InS_len hi, fun x hx => ?_⟩
    obtain ⟨a, ha, h4⟩ := InS_mem hi x hx
    have := h.b a ha
    omega
  refine ⟨⟨hpos, by rw [h3]; rfl, fun k hk => Lk_step _ k h2 hk, Lk_last _ h2 hpos, fun l hl => (hok l hl).1, fun l hl x hx => ?_⟩, hok⟩
  have := (hok l hl).2 x hx
  omega

end Go.Proofs.YtagpmpbmfjaiiaaGreatDoor
