/- The law FlatChanges: what it answers. -/
import Derived.Test.YtagpmpbmfjaiiaaPi
import Derived.Test.YtagpmpbmfjaiiaaPt
import Derived.Test.YtagpmpbmfjaiiaaM9
import Derived.Test.YtagpmpbmfjaiiaaMo
set_option linter.unusedVariables false
set_option linter.unusedSimpArgs false
namespace Go.Proofs.Ytagpmpbmfjaiiaa
open Go.RowKit
set_option maxRecDepth 20000
set_option maxHeartbeats 8000000

abbrev frK (L : List (Int × Int)) : List DV := (L.map frC).flatten
abbrev frS (L : List (Int × Int)) : DV := .slice L.length (frK L)
theorem frC_len (f : Int × Int) : (frC f).length = 2 := rfl
theorem frK_len (L : List (Int × Int)) : (frK L).length = L.length * 2 := flat_len frC 2 frC_len L
abbrev f0 : Int × Int := (0, 0)
/-- The numbers of a list that is given by a function. -/
def lstF (f : Nat → Int × Int) (n : Nat) : List (Int × Int) := (List.range n).map f
theorem lstF_len (f : Nat → Int × Int) (n : Nat) : (lstF f n).length = n := by simp [lstF]
theorem lstF_snoc (f : Nat → Int × Int) (n : Nat) : frK (lstF f (n + 1)) = frK (lstF f n) ++ frC (f n) := by
  unfold frK lstF; rw [List.range_succ, List.map_append, List.map_append, List.flatten_append]; simp
theorem frK_ne {L : List (Int × Int)} (h : L ≠ []) : frK L ≠ [] := by
  rcases L with _ | ⟨x, L⟩
  · exact absurd rfl h
  · intro h2
    have := frK_len (x :: L)
    rw [h2] at this
    simp at this
theorem low_pos {n d : Int} (h : 0 < d) : 0 < (low n d).2 := by
  show 0 < d / (Int.gcd n d : Int)
  exact Int.ediv_pos_of_pos_of_dvd h (Int.natCast_nonneg _) (Int.gcd_dvd_right ..)
def sumT (l : List Int) : Nat → Int
  | 0 => 0
  | k + 1 => sumT l k + nth l k
theorem sumT_bnd {l : List Int} (h : ∀ x ∈ l, 1 ≤ x ∧ x ≤ 100000) : ∀ k, k ≤ l.length → (k : Int) ≤ sumT l k ∧ sumT l k ≤ 100000 * k
  | 0, _ => by unfold sumT; omega
  | k + 1, hk => by
    have h1 := sumT_bnd h k (by omega)
    have h2 := h _ (nth_mem (xs := l) (k := k) (by omega))
    unfold sumT; omega
def sumL (l : List Int) : Int := sumT l l.length
/-- The change at a position, as it is. -/
def chF (b a : List Int) (i : Nat) : Int × Int := low (nth b i * sumL a - nth a i * sumL b) (nth a i * sumL b)
/-- The changes of the first positions are not too large. -/
def chA (b a : List Int) : Nat → Bool
  | 0 => true
  | k + 1 => chA b a k && smF (chF b a k)
theorem chA_false {b a : List Int} {k : Nat} (h : chA b a k = false) : ∀ n, chA b a (k + n) = false
  | 0 => h
  | n + 1 => by show (chA b a (k + n) && _) = false; rw [chA_false h n]; rfl
theorem chA_end {b a : List Int} {k n : Nat} (h : chA b a k = false) (hk : k ≤ n) : chA b a n = false := by
  have := chA_false h (n - k)
  rwa [show k + (n - k) = n by omega] at this
def chL (b a : List Int) : List (Int × Int) := lstF (chF b a) b.length
theorem mul_pos_bnd {x y : Int} (h1 : 1 ≤ x ∧ x ≤ 100000) (h2 : 1 ≤ y ∧ y ≤ 900000) : 1 ≤ x * y ∧ x * y ≤ 90000000000 := by
  have a1 : x * y ≤ x * 900000 := Int.mul_le_mul_of_nonneg_left h2.2 (by omega)
  have a2 : x * 1 ≤ x * y := Int.mul_le_mul_of_nonneg_left h2.1 (by omega)
  omega
theorem sumL_bnd {l : List Int} (h : prE l = 0) : 1 ≤ sumL l ∧ sumL l ≤ 900000 := by
  obtain ⟨h1, h2, h3, h4⟩ := prE_ok h
  have := sumT_bnd h4 l.length (Nat.le_refl _)
  unfold sumL; omega
/-- The error of two profiles. -/
def chE (b a : List Int) : Int := fst0 [prE b, prE a, unl (decide ((b.length : Int) = a.length)) 10]
end Go.Proofs.Ytagpmpbmfjaiiaa
