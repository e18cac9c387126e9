/- Plain: one column of an elimination, row by row (chapter 6). -/
import Derived.Test.YtgjhikjnlcbmkaaSc
set_option linter.unusedVariables false
set_option linter.unusedSimpArgs false
namespace Go.Proofs.Ytgjhikjnlcbmkaa
open Go.RowKit
set_option maxRecDepth 20000

def elQ (M : Mq) (c i : Nat) : Mq := fun q => if q < i then subR M c (fun i => M i c / M c c) q else M q
def upR (m : Mq) (i : Nat) (f : Nat → Rat) : Mq := fun q => if q = i then f else m q
def mixK (c k : Nat) (f g : Nat → Rat) : Nat → Rat := fun j => if c ≤ j ∧ j < k then g j else f j
theorem mixK_same (c k : Nat) (f g : Nat → Rat) : mixK c k f g k = f k := by
  unfold mixK; rw [if_neg (by omega)]
theorem mixK_set {c k : Nat} (f g : Nat → Rat) (hk : k < 5) (hc : c ≤ k) : (rwQ (mixK c k f g)).set k (g k) = rwQ (mixK c (k + 1) f g) := by
  rw [rwQ_set _ hk]
  refine rwQ_congr fun j hj => ?_
  unfold mixK
  by_cases e : j = k
  · subst e; rw [if_pos rfl, if_pos (by omega)]
  · rw [if_neg e]
    by_cases h : c ≤ j ∧ j < k
    · rw [if_pos h, if_pos (by omega)]
    · rw [if_neg h, if_neg (by omega)]
theorem mixK_zero (c : Nat) (f g : Nat → Rat) : mixK c c f g = f := by
  funext j
  unfold mixK; rw [if_neg (by omega)]
theorem mixK_end {M : Mq} {c i : Nat} (hi : i ≠ c) (hd : ∀ j, j < c → M c j = 0) (l : Nat → Rat) : rwQ (mixK c 5 (M i) (subR M c l i)) = rwQ (subR M c l i) := rwQ_congr fun j hj => by
  unfold mixK
  by_cases h : c ≤ j ∧ j < 5
  · rw [if_pos h]
  · rw [if_neg h]
    unfold subR
    rw [if_neg hi, hd j (by omega), Rat.mul_zero]
    grind
theorem sub_none {M : Mq} {c i : Nat} (h : M i c = 0) : subR M c (fun i => M i c / M c c) i = M i := by
  funext j
  unfold subR
  by_cases e : i = c
  · rw [if_pos e]
  · rw [if_neg e]
    show M i j - M i c / M c c * M c j = M i j
    have : M i c / M c c = 0 := by rw [h]; grind
    rw [this, Rat.zero_mul]
    grind
theorem subR_S {M : Mq} {c K : Nat} (hc : c < 4) (hp : M c c ≠ 0) (h : RatM K M) : RatM (8 * K + 1) (subR M c fun i => M i c / M c c) := fun i j hi hj => by
  unfold subR
  by_cases e : i = c
  · rw [if_pos e]; exact (h i j hi hj).mono (by omega)
  · rw [if_neg e]
    exact ((h i j hi hj).sub (((h i c hi (by omega)).div (h c c hc (by omega)) hp).mul (h c j hc hj))).mono (by omega)
theorem swapR_S {m : Mq} {a b K : Nat} (ha : a < 4) (hb : b < 4) (h : RatM K m) : RatM K (swapR m a b) := fun i j hi hj => by
  unfold swapR
  by_cases e : i = a
  · rw [if_pos e]; exact h b j hb hj
  · rw [if_neg e]
    by_cases e2 : i = b
    · rw [if_pos e2]; exact h a j ha hj
    · rw [if_neg e2]; exact h i j hi hj

end Go.Proofs.Ytgjhikjnlcbmkaa
