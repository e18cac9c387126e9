/- Merged: XB XC XD XE XF XG XH XQ XI XJ. -/
import Derived.Test.YtocnbbjcfgfgdaaGreatDoorM1
import Derived.Test.YtocnbbjcfgfgdaaGreatDoorRows
import Derived.BigQuiet
import Derived.Deep.QuietTactic
import Derived.Shelf.Abstract
import Derived.Deep.RegionHeld3
import Derived.Laws.ComplexArith
set_option linter.unusedVariables false
set_option linter.unusedSimpArgs false
/- Leaf functions of roll and cobblebase on numbers: each call returns what the plain function gives. -/
namespace Go.Proofs.YtocnbbjcfgfgdaaGreatDoor
open Go.RowKit

set_option maxHeartbeats 400000

theorem within_any (n lo hi : Int) (w : World) :
    Calls Tryz.prog 42 #[.int .i64 n, .int .i64 lo, .int .i64 hi] w fun e w' => e = .returned (.bool (inR n lo hi)) ∧ w = w' := by
  go_enter Tryz.func42, Tryz.ntmps42
  go_wp2
  · go_ret
    simp [inR, *]
  · go_ret
    have : ¬ lo ≤ n := by omega
    simp [inR, this]

theorem bwithin_any (n lo hi : Int) (w : World) :
    Calls Tryz.prog 14 #[.int .i64 n, .int .i64 lo, .int .i64 hi] w fun e w' => e = .returned (.bool (inR n lo hi)) ∧ w = w' := by
  go_enter Tryz.func14, Tryz.ntmps14
  go_wp2
  · go_ret
    simp [inR, *]
  · go_ret
    have : ¬ lo ≤ n := by omega
    simp [inR, this]

theorem isSized_any (n m : Int) (w : World) (h : Sm m) :
    Calls Tryz.prog 55 #[.int .i64 n, .int .i64 m] w fun e w' => e = .returned (.bool (inR n (-m) m)) ∧ w = w' := by
  obtain ⟨h1, h2⟩ := h
  go_enter Tryz.func55, Tryz.ntmps55
  go_wp2_with (go_at_call 42; refine (within_any _ _ _ _).mono ?_; rintro e w' ⟨rfl, rfl⟩)
  go_ret
  exact ⟨rfl, rfl⟩

def unl (b : Bool) (n : Int) : Int := bif b then 0 else n

theorem unless_any (b : Bool) (n : Int) (w : World) :
    Calls Tryz.prog 34 #[.bool b, .int .i64 n] w fun e w' => e = .returned (.int .i64 (unl b n)) ∧ w = w' := by
  cases b
  all_goals
    go_enter Tryz.func34, Tryz.ntmps34
    go_wp2
    go_ret
    exact ⟨rfl, rfl⟩

/-- The first number that is not 0, else 0. -/
def fst0 : List Int → Int
  | [] => 0
  | x :: l => bif x == 0 then fst0 l else x

theorem fst0_zero (l : List Int) : fst0 (0 :: l) = fst0 l := rfl
theorem fst0_ne {x : Int} (h : x ≠ 0) (l : List Int) : fst0 (x :: l) = x := by
  have : (x == 0) = false := by simp [h]
  simp only [fst0, this]; rfl
theorem fst0_one (x : Int) : fst0 [x] = x := by
  by_cases h : x = 0
  · rw [h]; rfl
  · exact fst0_ne h _

theorem first_any (A : Option Addr) (n c : Nat) (es : List Int) (w : World) (hn : es.length = n) (h : At w A (ints es)) (hm : n ≤ maxLen) :
    Calls Tryz.prog 33 #[.slice A n c] w fun e w' => e = .returned (.int .i64 (fst0 es)) ∧ w = w' := by
  subst hn
  unfold maxLen at hm
  go_enter Tryz.func33, Tryz.ntmps33
  go_wp2
  go_loop [7] (fun i => ∃ k : Nat, k ≤ es.length ∧ i = .int .i64 k ∧ fst0 es = fst0 (es.drop k)) (fun i => es.length - (intOf i).toNat)
  case atStart => exact ⟨0, Nat.zero_le _, rfl, rfl⟩
  case round =>
    obtain ⟨k, hk, rfl, hd⟩ := hrel
    have HD := Lib.hid hd
    clear hd
    by_cases hlt : k < es.length
    · obtain ⟨b, o, rfl, hb, hc⟩ := h.int hlt
      have hs : fst0 (es.drop k) = bif es[k] == 0 then fst0 (es.drop (k + 1)) else es[k] := by
        rw [List.drop_eq_getElem_cons hlt]; rfl
      have HS := Lib.hid hs
      clear hs
      by_cases hz : es[k] = 0
      · have hz1 : (es[k] != 0) = false := by simp [hz]
        go_wp2
        go_round
        case rel => exact ⟨k + 1, by omega, by go_num, by rw [HD.out, HS.out]; simp [hz]⟩
        case measure => simp [intOf]; omega
      · have hz1 : (es[k] != 0) = true := by simp [hz]
        go_wp2
        go_ret
        have e : (es[k] == 0) = false := by simp [hz]
        rw [HD.out, HS.out, e]
        exact ⟨rfl, rfl⟩
    · go_wp2
      go_ret
      have : es.drop k = [] := by simp; omega
      rw [HD.out, this]
      exact ⟨rfl, rfl⟩

theorem first2_any (a1 a2 : Int) (w : World) (t : TypeId) :
    Calls Tryz.prog 33 #[.slice (some ⟨w.heap.size, 0, none⟩) 2 2] (w.alloc (.cells #[.int .i64 a1, .int .i64 a2] t)) fun e w' => e = .returned (.int .i64 (fst0 [a1, a2])) ∧ w.alloc (.cells #[.int .i64 a1, .int .i64 a2] t) = w' :=
  first_any _ _ _ [a1, a2] _ rfl (At.new w t (ints [a1, a2])) (by unfold maxLen; omega)

theorem first3_any (a1 a2 a3 : Int) (w : World) (t : TypeId) :
    Calls Tryz.prog 33 #[.slice (some ⟨w.heap.size, 0, none⟩) 3 3] (w.alloc (.cells #[.int .i64 a1, .int .i64 a2, .int .i64 a3] t)) fun e w' => e = .returned (.int .i64 (fst0 [a1, a2, a3])) ∧ w.alloc (.cells #[.int .i64 a1, .int .i64 a2, .int .i64 a3] t) = w' :=
  first_any _ _ _ [a1, a2, a3] _ rfl (At.new w t (ints [a1, a2, a3])) (by unfold maxLen; omega)

theorem first4_any (a1 a2 a3 a4 : Int) (w : World) (t : TypeId) :
    Calls Tryz.prog 33 #[.slice (some ⟨w.heap.size, 0, none⟩) 4 4] (w.alloc (.cells #[.int .i64 a1, .int .i64 a2, .int .i64 a3, .int .i64 a4] t)) fun e w' => e = .returned (.int .i64 (fst0 [a1, a2, a3, a4])) ∧ w.alloc (.cells #[.int .i64 a1, .int .i64 a2, .int .i64 a3, .int .i64 a4] t) = w' :=
  first_any _ _ _ [a1, a2, a3, a4] _ rfl (At.new w t (ints [a1, a2, a3, a4])) (by unfold maxLen; omega)

theorem first5_any (a1 a2 a3 a4 a5 : Int) (w : World) (t : TypeId) :
    Calls Tryz.prog 33 #[.slice (some ⟨w.heap.size, 0, none⟩) 5 5] (w.alloc (.cells #[.int .i64 a1, .int .i64 a2, .int .i64 a3, .int .i64 a4, .int .i64 a5] t)) fun e w' => e = .returned (.int .i64 (fst0 [a1, a2, a3, a4, a5])) ∧ w.alloc (.cells #[.int .i64 a1, .int .i64 a2, .int .i64 a3, .int .i64 a4, .int .i64 a5] t) = w' :=
  first_any _ _ _ [a1, a2, a3, a4, a5] _ rfl (At.new w t (ints [a1, a2, a3, a4, a5])) (by unfold maxLen; omega)

theorem first2d_any (a1 a2 : Int) (w : World) (t : TypeId) :
    Calls Tryz.prog 33 #[.slice (some ⟨w.heap.size, 0, none⟩) 2 2] (w.alloc (.cells #[.int .i64 a1, .int .i64 a2] t)).drew fun e w' => e = .returned (.int .i64 (fst0 [a1, a2])) ∧ (w.alloc (.cells #[.int .i64 a1, .int .i64 a2] t)).drew = w' :=
  first2_any a1 a2 w.drew t

theorem first3d_any (a1 a2 a3 : Int) (w : World) (t : TypeId) :
    Calls Tryz.prog 33 #[.slice (some ⟨w.heap.size, 0, none⟩) 3 3] (w.alloc (.cells #[.int .i64 a1, .int .i64 a2, .int .i64 a3] t)).drew fun e w' => e = .returned (.int .i64 (fst0 [a1, a2, a3])) ∧ (w.alloc (.cells #[.int .i64 a1, .int .i64 a2, .int .i64 a3] t)).drew = w' :=
  first3_any a1 a2 a3 w.drew t

theorem first4d_any (a1 a2 a3 a4 : Int) (w : World) (t : TypeId) :
    Calls Tryz.prog 33 #[.slice (some ⟨w.heap.size, 0, none⟩) 4 4] (w.alloc (.cells #[.int .i64 a1, .int .i64 a2, .int .i64 a3, .int .i64 a4] t)).drew fun e w' => e = .returned (.int .i64 (fst0 [a1, a2, a3, a4])) ∧ (w.alloc (.cells #[.int .i64 a1, .int .i64 a2, .int .i64 a3, .int .i64 a4] t)).drew = w' :=
  first4_any a1 a2 a3 a4 w.drew t

theorem first5d_any (a1 a2 a3 a4 a5 : Int) (w : World) (t : TypeId) :
    Calls Tryz.prog 33 #[.slice (some ⟨w.heap.size, 0, none⟩) 5 5] (w.alloc (.cells #[.int .i64 a1, .int .i64 a2, .int .i64 a3, .int .i64 a4, .int .i64 a5] t)).drew fun e w' => e = .returned (.int .i64 (fst0 [a1, a2, a3, a4, a5])) ∧ (w.alloc (.cells #[.int .i64 a1, .int .i64 a2, .int .i64 a3, .int .i64 a4, .int .i64 a5] t)).drew = w' :=
  first5_any a1 a2 a3 a4 a5 w.drew t

theorem first2B_any (a1 a2 : Int) (w : World) (t : TypeId) :
    Calls Tryz.prog 33 #[.slice (some ⟨w.heap.size, 0, none⟩) 2 2] (w.alloc (.cells #[.int .i64 a1, .int .i64 a2] t)) fun e w' => e = .returned (.int .i64 (fst0 [a1, a2])) ∧ Below (w.alloc (.cells #[.int .i64 a1, .int .i64 a2] t)).heap.size (w.alloc (.cells #[.int .i64 a1, .int .i64 a2] t)) w' :=
  (first2_any a1 a2 w t).mono fun _ _ ⟨h1, h2⟩ => ⟨h1, h2 ▸ Below.refl _ _⟩

theorem first2dB_any (a1 a2 : Int) (w : World) (t : TypeId) :
    Calls Tryz.prog 33 #[.slice (some ⟨w.heap.size, 0, none⟩) 2 2] (w.alloc (.cells #[.int .i64 a1, .int .i64 a2] t)).drew fun e w' => e = .returned (.int .i64 (fst0 [a1, a2])) ∧ Below (w.alloc (.cells #[.int .i64 a1, .int .i64 a2] t)).drew.heap.size (w.alloc (.cells #[.int .i64 a1, .int .i64 a2] t)).drew w' :=
  (first2d_any a1 a2 w t).mono fun _ _ ⟨h1, h2⟩ => ⟨h1, h2 ▸ Below.refl _ _⟩

theorem first3B_any (a1 a2 a3 : Int) (w : World) (t : TypeId) :
    Calls Tryz.prog 33 #[.slice (some ⟨w.heap.size, 0, none⟩) 3 3] (w.alloc (.cells #[.int .i64 a1, .int .i64 a2, .int .i64 a3] t)) fun e w' => e = .returned (.int .i64 (fst0 [a1, a2, a3])) ∧ Below (w.alloc (.cells #[.int .i64 a1, .int .i64 a2, .int .i64 a3] t)).heap.size (w.alloc (.cells #[.int .i64 a1, .int .i64 a2, .int .i64 a3] t)) w' :=
  (first3_any a1 a2 a3 w t).mono fun _ _ ⟨h1, h2⟩ => ⟨h1, h2 ▸ Below.refl _ _⟩

theorem first3dB_any (a1 a2 a3 : Int) (w : World) (t : TypeId) :
    Calls Tryz.prog 33 #[.slice (some ⟨w.heap.size, 0, none⟩) 3 3] (w.alloc (.cells #[.int .i64 a1, .int .i64 a2, .int .i64 a3] t)).drew fun e w' => e = .returned (.int .i64 (fst0 [a1, a2, a3])) ∧ Below (w.alloc (.cells #[.int .i64 a1, .int .i64 a2, .int .i64 a3] t)).drew.heap.size (w.alloc (.cells #[.int .i64 a1, .int .i64 a2, .int .i64 a3] t)).drew w' :=
  (first3d_any a1 a2 a3 w t).mono fun _ _ ⟨h1, h2⟩ => ⟨h1, h2 ▸ Below.refl _ _⟩

theorem first4B_any (a1 a2 a3 a4 : Int) (w : World) (t : TypeId) :
    Calls Tryz.prog 33 #[.slice (some ⟨w.heap.size, 0, none⟩) 4 4] (w.alloc (.cells #[.int .i64 a1, .int .i64 a2, .int .i64 a3, .int .i64 a4] t)) fun e w' => e = .returned (.int .i64 (fst0 [a1, a2, a3, a4])) ∧ Below (w.alloc (.cells #[.int .i64 a1, .int .i64 a2, .int .i64 a3, .int .i64 a4] t)).heap.size (w.alloc (.cells #[.int .i64 a1, .int .i64 a2, .int .i64 a3, .int .i64 a4] t)) w' :=
  (first4_any a1 a2 a3 a4 w t).mono fun _ _ ⟨h1, h2⟩ => ⟨h1, h2 ▸ Below.refl _ _⟩

theorem first4dB_any (a1 a2 a3 a4 : Int) (w : World) (t : TypeId) :
    Calls Tryz.prog 33 #[.slice (some ⟨w.heap.size, 0, none⟩) 4 4] (w.alloc (.cells #[.int .i64 a1, .int .i64 a2, .int .i64 a3, .int .i64 a4] t)).drew fun e w' => e = .returned (.int .i64 (fst0 [a1, a2, a3, a4])) ∧ Below (w.alloc (.cells #[.int .i64 a1, .int .i64 a2, .int .i64 a3, .int .i64 a4] t)).drew.heap.size (w.alloc (.cells #[.int .i64 a1, .int .i64 a2, .int .i64 a3, .int .i64 a4] t)).drew w' :=
  (first4d_any a1 a2 a3 a4 w t).mono fun _ _ ⟨h1, h2⟩ => ⟨h1, h2 ▸ Below.refl _ _⟩

theorem first5B_any (a1 a2 a3 a4 a5 : Int) (w : World) (t : TypeId) :
    Calls Tryz.prog 33 #[.slice (some ⟨w.heap.size, 0, none⟩) 5 5] (w.alloc (.cells #[.int .i64 a1, .int .i64 a2, .int .i64 a3, .int .i64 a4, .int .i64 a5] t)) fun e w' => e = .returned (.int .i64 (fst0 [a1, a2, a3, a4, a5])) ∧ Below (w.alloc (.cells #[.int .i64 a1, .int .i64 a2, .int .i64 a3, .int .i64 a4, .int .i64 a5] t)).heap.size (w.alloc (.cells #[.int .i64 a1, .int .i64 a2, .int .i64 a3, .int .i64 a4, .int .i64 a5] t)) w' :=
  (first5_any a1 a2 a3 a4 a5 w t).mono fun _ _ ⟨h1, h2⟩ => ⟨h1, h2 ▸ Below.refl _ _⟩

theorem first5dB_any (a1 a2 a3 a4 a5 : Int) (w : World) (t : TypeId) :
    Calls Tryz.prog 33 #[.slice (some ⟨w.heap.size, 0, none⟩) 5 5] (w.alloc (.cells #[.int .i64 a1, .int .i64 a2, .int .i64 a3, .int .i64 a4, .int .i64 a5] t)).drew fun e w' => e = .returned (.int .i64 (fst0 [a1, a2, a3, a4, a5])) ∧ Below (w.alloc (.cells #[.int .i64 a1, .int .i64 a2, .int .i64 a3, .int .i64 a4, .int .i64 a5] t)).drew.heap.size (w.alloc (.cells #[.int .i64 a1, .int .i64 a2, .int .i64 a3, .int .i64 a4, .int .i64 a5] t)).drew w' :=
  (first5d_any a1 a2 a3 a4 a5 w t).mono fun _ _ ⟨h1, h2⟩ => ⟨h1, h2 ▸ Below.refl _ _⟩

/-- The greatest common divisor. -/
theorem divisor_any (a b : Int) (w : World) (ha : Sm a) (hb : Sm b) :
    Calls Tryz.prog 54 #[.int .i64 a, .int .i64 b] w fun e w' => e = .returned (.int .i64 (Int.gcd a b)) ∧ Below w.heap.size w w' := by
  go_enter Tryz.func54, Tryz.ntmps54
  go_wp2
  go_loopw [0, 1] (fun x y wr => ∃ u v : Int, x = .int .i64 u ∧ y = .int .i64 v ∧ Sm u ∧ Sm v ∧ Int.gcd u v = Int.gcd a b ∧ Below w.heap.size w wr) (fun _ y _ => (intOf y).natAbs)
  case atStart => exact ⟨a, b, rfl, rfl, ha, hb, rfl, Below.refl _ _⟩
  case round =>
    obtain ⟨u, v, rfl, rfl, ⟨hu1, hu2⟩, ⟨hv1, hv2⟩, hg, hbl⟩ := hrel
    have HG := Lib.hid hg
    clear hg
    by_cases hz : v = 0
    · have hz1 : (v != 0) = false := by simp [hz]
      have hfin : (u.natAbs : Int) = (Int.gcd a b : Int) := by rw [← HG.out, hz, Int.gcd_zero_right]
      have HF := Lib.hid hfin
      clear hfin
      go_wp2
      all_goals
        go_ret
        refine ⟨ret_int ?_, hbl⟩
        have := HF.out
        first | (show u = _; omega) | (show -u = _; omega)
    · have hz1 : (v != 0) = true := by simp [hz]
      have hz2 : v ≠ 0 := hz
      go_wp2
      go_quiet (fail)
      go_wp2
      have := tmod_lt u v hz
      exact ⟨⟨v, u.tmod v, rfl, rfl, ⟨hv1, hv2⟩, ⟨by omega, by omega⟩, by rw [gcd_step]; exact HG.out, below_drewN hbl _⟩, this⟩

/-- In lowest terms (the denominator is above 0). -/
def low (n d : Int) : Int × Int := (n.tdiv (Int.gcd n d), d / (Int.gcd n d))
abbrev fracV (f : Int × Int) : Value := .agg #[.int .i64 f.1, .int .i64 f.2]

theorem fraction_any (a b : Int) (w : World) (ha : Sm a) (hb : 0 < b) (hb2 : b ≤ 9223372036854775807) :
    Calls Tryz.prog 71 #[.int .i64 a, .int .i64 b] w fun e w' => e = .returned (fracV (low a b)) ∧ Below w.heap.size w w' := by
  have hg : 0 < (Int.gcd a b : Int) := by
    have := Int.gcd_pos_of_ne_zero_right a (b := b) (by omega)
    omega
  have hg2 : (Int.gcd a b : Int) ≠ 0 := by omega
  go_enter Tryz.func71, Tryz.ntmps71
  go_wp2_with (go_at_call 54; refine (divisor_any _ _ _ ha ⟨by omega, by omega⟩).mono ?_; rintro e w' ⟨rfl, hbl⟩)
  obtain ⟨ha1, ha2⟩ := ha
  obtain ⟨hc, hf⟩ := bcell hbl
  have hz : w.heap.size + 1 ≤ w'.heap.size := by have := hbl.size; simpa using this
  go_region
  go_wp2
  refine bodyPost_ret (v := fracV (low a b)) (by simp [results, Tryz.results71, go_sem, hz, hc, fracV, low]) rfl ⟨rfl, ?_⟩
  exact ((((((Below.refl _ _).alloc (Nat.le_refl _) _).trans (hbl.mono (by simp))).setCell (by simp) _).setCell (by simp) _).drew)

end Go.Proofs.YtocnbbjcfgfgdaaGreatDoor

/- slices.ContainsFunc, CheckRecord of roll and of the reference. -/
namespace Go.Proofs.YtocnbbjcfgfgdaaGreatDoor
open Go.RowKit
set_option maxHeartbeats 400000
set_option maxRecDepth 20000

/-- A function value that answers whether p holds, whatever has been made since w. -/
def Answers (K : Nat) (caps : Array Value) (p : Int → Bool) (w : World) (xs : List Int) : Prop :=
  ∀ x ∈ xs, ∀ w1, Below w.heap.size w w1 → Calls Tryz.prog K (#[.int .i64 x] ++ caps) w1 fun e w2 => e = .returned (.bool (p x)) ∧ Below w1.heap.size w1 w2

/-- The first index from k on at which p holds, or -1. -/
def idxF (p : Int → Bool) : List Int → Nat → Int
  | [], _ => -1
  | x :: l, k => bif p x then k else idxF p l (k + 1)

theorem indexFunc_any (K : Nat) (caps : Array Value) (p : Int → Bool) (A : Option Addr) (n c : Nat) (xs : List Int) (w : World) (hn : xs.length = n) (h : At w A (ints xs)) (hm : n ≤ maxLen)
    (he : Enters Tryz.prog K) (hp : Answers K caps p w xs) :
    Calls Tryz.prog 87 #[.slice A n c, .func (.func K) #[] caps] w fun e w' => e = .returned (.int .i64 (idxF p xs 0)) ∧ Below w.heap.size w w' := by
  subst hn
  unfold maxLen at hm
  have he' : ∀ args w, (callFunc K args).run Tryz.prog w = .ok (.enter K args) w := he
  go_enter Tryz.func87, Tryz.ntmps87
  go_wp2
  go_loopw [8] (fun i wr => ∃ k : Nat, k ≤ xs.length ∧ i = .int .i64 k ∧ idxF p xs 0 = idxF p (xs.drop k) k ∧ Below w.heap.size w wr) (fun i _ => xs.length - (intOf i).toNat)
  case atStart => exact ⟨0, Nat.zero_le _, rfl, rfl, Below.refl _ _⟩
  case round =>
    obtain ⟨k, hk, rfl, hd, hbl⟩ := hrel
    have HD := Lib.hid hd
    clear hd
    by_cases hlt : k < xs.length
    · obtain ⟨b, o, rfl, hb, hc0⟩ := h.int hlt
      have hc := (hbl.cell (p := ⟨b, o + k, none⟩) hb).trans hc0
      clear hc0
      have hs : idxF p (xs.drop k) k = bif p xs[k] then (k : Int) else idxF p (xs.drop (k + 1)) (k + 1) := by
        rw [List.drop_eq_getElem_cons hlt]; rfl
      have HS := Lib.hid hs
      clear hs
      have hp1 := hp xs[k] (List.getElem_mem hlt) wr hbl
      have HP := Lib.hid hp1
      clear hp1
      have hpx : p xs[k] = p xs[k] := rfl
      generalize hpv : p xs[k] = q at *
      have HV := Lib.hid hpv
      clear hpv hpx
      go_wp2_with fail
      refine HP.out.mono ?_
      rintro e w2 ⟨rfl, hb2⟩
      cases q
      · go_wp2
        go_roundw
        case rel => exact ⟨k + 1, by omega, by go_num, by rw [HD.out, HS.out]; rfl, hbl.trans (hb2.mono hbl.size)⟩
        case measure => simp [intOf]; omega
      · go_wp2
        go_ret
        exact ⟨by rw [HD.out, HS.out]; rfl, hbl.trans (hb2.mono hbl.size)⟩
    · go_wp2
      go_ret
      have : xs.drop k = [] := by simp; omega
      rw [HD.out, this]
      exact ⟨rfl, hbl⟩

theorem idxF_neg (p : Int → Bool) (xs : List Int) (k : Nat) : decide (0 ≤ idxF p xs k) = xs.any p := by
  induction xs generalizing k with
  | nil => rfl
  | cons x l ih =>
    unfold idxF
    cases h : p x
    · simp [h, ih]
    · simp [h]

theorem containsFunc_any (K : Nat) (caps : Array Value) (p : Int → Bool) (A : Option Addr) (n c : Nat) (xs : List Int) (w : World) (hn : xs.length = n) (h : At w A (ints xs)) (hm : n ≤ maxLen)
    (he : Enters Tryz.prog K) (hp : Answers K caps p w xs) :
    Calls Tryz.prog 76 #[.slice A n c, .func (.func K) #[] caps] w fun e w' => e = .returned (.bool (xs.any p)) ∧ Below w.heap.size w w' := by
  go_enter Tryz.func76, Tryz.ntmps76
  go_wp2_with (go_at_call 87; refine (indexFunc_any K caps p A n c xs _ hn h hm he hp).mono ?_; rintro e w' ⟨rfl, hbl⟩)
  go_ret
  exact ⟨by rw [← idxF_neg p xs 0]; rfl, hbl⟩

end Go.Proofs.YtocnbbjcfgfgdaaGreatDoor

/- Functions of cobblebase on numbers: Mod, Floor, Ceil, Size, Gcd, Lowest, Whole, Cmp, IsLowest. -/
namespace Go.Proofs.YtocnbbjcfgfgdaaGreatDoor
open Go.RowKit
set_option maxHeartbeats 400000
set_option maxRecDepth 20000

theorem size_any (n : Int) (w : World) (hn : Sm n) :
    Calls Tryz.prog 40 #[.int .i64 n] w fun e w' => e = .returned (.int .i64 n.natAbs) ∧ w = w' := by
  obtain ⟨hn1, hn2⟩ := hn
  go_enter Tryz.func40, Tryz.ntmps40
  go_wp2
  all_goals
    go_ret
    refine ⟨ret_int ?_, rfl⟩
    first | (show n = _; omega) | (show -n = _; omega)

theorem whole_any (n : Int) (w : World) :
    Calls Tryz.prog 18 #[.int .i64 n] w fun e w' => e = .returned (fracV (n, 1)) ∧ Below w.heap.size w w' := by
  go_enter Tryz.func18, Tryz.ntmps18
  go_wp2
  refine bodyPost_ret (v := fracV (n, 1)) (by simp [results, Tryz.results18, go_sem, fracV]) rfl ⟨rfl, ?_⟩
  exact (Below.refl _ _).alloc (Nat.le_refl _) _

end Go.Proofs.YtocnbbjcfgfgdaaGreatDoor

/- Records: CheckRecord of roll and of the reference; slices of ints: Ints, CopyInts. -/
namespace Go.Proofs.YtocnbbjcfgfgdaaGreatDoor
open Go.RowKit
set_option maxHeartbeats 400000
set_option maxRecDepth 20000

/-- The error of a record. -/
def recErr (x : List Int) : Int :=
  bif decide (x.length = 0) then 10 else bif decide (240 < x.length) then 8 else bif x.any (fun n => !inR n (-1000000) 1000000) then 2 else 0

theorem rec_eq (xs : List Int) (n : Nat) (hn : xs.length = n) :
    fst0 [unl (decide (0 < n)) 10, unl (decide ((n : Int) ≤ 240)) 8, unl (!xs.any fun n => !inR n (-1000000) 1000000) 2] = recErr xs := by
  subst hn
  unfold recErr
  generalize xs.any (fun n => !inR n (-1000000) 1000000) = q
  by_cases h0 : xs.length = 0
  · simp [h0, fst0, unl]
  by_cases h1 : 240 < xs.length
  · have h2 : ¬ (xs.length : Int) ≤ 240 := by omega
    have h3 : 0 < xs.length := by omega
    simp [h0, h1, h2, h3, fst0, unl]
  · have h2 : (xs.length : Int) ≤ 240 := by omega
    have h3 : 0 < xs.length := by omega
    cases q <;> simp [h0, h1, h2, h3, fst0, unl]

theorem odd_answers (w : World) (xs : List Int) : Answers 86 #[] (fun n => !inR n (-1000000) 1000000) w xs := by
  intro x _ w1 _
  go_enter Tryz.func86, Tryz.ntmps86
  go_wp2_with (go_at_call 55; refine (isSized_any _ _ _ ⟨by omega, by omega⟩).mono ?_; rintro e w' ⟨rfl, rfl⟩)
  go_ret
  exact ⟨rfl, Below.refl _ _⟩

theorem checkRecord_any (A : Option Addr) (n c : Nat) (xs : List Int) (w : World) (hn : xs.length = n) (h : At w A (ints xs)) (hm : n ≤ maxLen) :
    Calls Tryz.prog 70 #[.slice A n c] w fun e w' => e = .returned (.int .i64 (recErr xs)) ∧ Below w.heap.size w w' := by
  go_enter Tryz.func70, Tryz.ntmps70
  go_wp2_with (go_at_call 76; refine (containsFunc_any _ _ _ A n c xs _ hn h hm (enters_of Tryz.func86 (by kernel_rfl) rfl) (odd_answers _ _)).mono ?_; rintro e w' ⟨rfl, hbl⟩)
  have hm2 := hm
  unfold maxLen at hm2
  go_wp2_with (first | (go_at_call 34; refine (unless_any _ _ _).mono ?_; rintro e w' ⟨rfl, rfl⟩) | (go_at_call 33; refine (first3_any _ _ _ _ _).mono ?_; rintro e w' ⟨rfl, rfl⟩))
  go_ret
  exact ⟨ret_int (rec_eq xs n hn), hbl.alloc hbl.size _⟩

/-- Equal lists of numbers. -/
theorem ints_any (A B : Option Addr) (n c m d : Nat) (xs ys : List Int) (w : World) (hn : xs.length = n) (h : At w A (ints xs)) (hm : n ≤ maxLen) (hn2 : ys.length = m) (h2 : At w B (ints ys)) (hm2 : m ≤ maxLen) :
    Calls Tryz.prog 28 #[.slice A n c, .slice B m d] w fun e w' => e = .returned (.bool (decide (xs = ys))) ∧ Below w.heap.size w w' := by
  subst hn
  subst hn2
  unfold maxLen at hm hm2
  by_cases h0 : xs.length = ys.length
  · have h0' : ((xs.length : Int) != (ys.length : Int)) = false := by simp [h0]
    have H0 := Lib.hid h0
    clear h0
    go_enter Tryz.func28, Tryz.ntmps28
    go_wp2
    go_loopw [5] (fun i wr => ∃ k : Nat, k ≤ xs.length ∧ i = .int .i64 k ∧ (xs = ys ↔ xs.drop k = ys.drop k) ∧ Below w.heap.size w wr) (fun i _ => xs.length - (intOf i).toNat)
    case atStart => exact ⟨0, Nat.zero_le _, rfl, Iff.rfl, Below.refl _ _⟩
    case round =>
      obtain ⟨k, hk, rfl, hd, hbl⟩ := hrel
      have HD := Lib.hid hd
      clear hd
      have h00 : xs.length ≤ ys.length := by have := H0.out; omega
      by_cases hlt : k < xs.length
      · have hlt2 : k < ys.length := by omega
        obtain ⟨b, o, rfl, hb, hc0⟩ := h.int hlt
        obtain ⟨b2, o2, rfl, hb2, hc20⟩ := h2.int hlt2
        have hc := (hbl.cell (p := ⟨b, o + k, none⟩) hb).trans hc0
        have hc2 := (hbl.cell (p := ⟨b2, o2 + k, none⟩) hb2).trans hc20
        clear hc0 hc20
        have hs : xs.drop k = ys.drop k ↔ xs[k] = ys[k] ∧ xs.drop (k + 1) = ys.drop (k + 1) := by
          rw [List.drop_eq_getElem_cons hlt, List.drop_eq_getElem_cons hlt2, List.cons.injEq]
        have HS := Lib.hid hs
        clear hs
        by_cases hq : xs[k] = ys[k]
        · have hq' : (xs[k] != ys[k]) = false := by simp [hq]
          have HQ := Lib.hid hq
          clear hq
          go_wp2
          go_quiet (fail)
          go_wp2
          go_roundw
          case rel => exact ⟨k + 1, by omega, by go_num, by rw [HD.out, HS.out]; simp [HQ.out], below_drewN hbl _⟩
          case measure => simp [intOf]; omega
        · have hq' : (xs[k] != ys[k]) = true := by simp [hq]
          have HQ := Lib.hid hq
          clear hq
          go_wp2
          go_quiet (fail)
          go_wp2
          go_ret
          refine ⟨?_, below_drewN hbl _⟩
          have : ¬ xs = ys := fun e => HQ.out (HS.out.1 (HD.out.1 e)).1
          simp [this]
      · go_wp2
        go_ret
        refine ⟨?_, hbl⟩
        have : xs = ys := HD.out.2 (by rw [List.drop_of_length_le (by omega), List.drop_of_length_le (by have := H0.out; omega)])
        simp [this]
  · have h0' : ((xs.length : Int) != (ys.length : Int)) = true := by simp [h0]; omega
    have h1 : xs ≠ ys := fun e => h0 (by rw [e])
    have H1 := Lib.hid h1
    clear h0 h1
    go_enter Tryz.func28, Tryz.ntmps28
    go_wp2
    go_ret
    refine ⟨?_, Below.refl _ _⟩
    simp [H1.out]

end Go.Proofs.YtocnbbjcfgfgdaaGreatDoor

/- append on slices of ints, CopyInts. -/
namespace Go.Proofs.YtocnbbjcfgfgdaaGreatDoor
open Go.RowKit
set_option maxHeartbeats 400000
set_option maxRecDepth 20000

theorem Tryz.infoInt : (Tryz.prog.info? 3).map (fun i => (i.zero, i.size, i.bytes)) = some (some (.int .i64 0), 1, 8) := by kernel_rfl

theorem app_int {w : World} {ops : Array Oper} {rest : List Oper} {o : Oper} {a : Act} {Q : Exit → Act → World → Prop} (hgd : o.guard = none) (s x : Operand)
    (ho : o.op = .call { callee := .builtin .append, args := #[s, x], argTypes := #[41, 41] })
    (base : Nat) (v : Value) (n : Nat) (xs : List Int) (hs : a.eval s = v) (hown : w.ownsRow base 3 1 v n (ints xs))
    (y : Int) (hx : a.eval x = .slice (some ⟨w.heap.size, 0, none⟩) 1 1) (hbytes : (n + 1) * 8 ≤ 140737488355328) (hbase : base ≤ w.heap.size)
    (h : ∀ g cap w', w'.ownsRow base 3 1 (.slice (some ⟨g, 0, none⟩) (n + 1) cap) (n + 1) (ints (xs ++ [y])) → w.grownBy w' v.ownBlock → Below base w w' → wpList Tryz.prog ops Q rest (a.put o.dst (.slice (some ⟨g, 0, none⟩) (n + 1) cap)) w') :
    wpList Tryz.prog ops Q (o :: rest) a (w.alloc (.cells #[.int .i64 y] 3)) := by
  obtain ⟨i0, hi, hz0, hz1, hz2⟩ := info_parts Tryz.infoInt
  exact wpList_app1 hgd s x 41 ho base 3 i0 (.int .i64 0) 1 8 Tryz.underlying41 hi hz0 hz1 hz2 rfl (by decide) (by decide) v n (ints xs) hs hown [.int .i64 y] hx rfl (by simp [Value.oneCell'])
    hbytes hbase fun g cap w' h1 h2 h3 => h g cap w' (by rw [ints_append]; exact h1) h2 h3

/-- A copy in memory of its own. -/
theorem copyInts_any (A : Option Addr) (n c : Nat) (xs : List Int) (w : World) (hn : xs.length = n) (h : At w A (ints xs)) (hm : n * 8 ≤ 140737488355328) :
    Calls Tryz.prog 17 #[.slice A n c] w fun e w' => ∃ B d, e = .returned (.slice B n d) ∧ w'.ownsRow w.heap.size 3 1 (.slice B n d) n (ints xs) ∧ Below w.heap.size w w' := by
  obtain ⟨i0, hi, hz0, hz1, hz2⟩ := info_parts Tryz.infoInt
  go_enter Tryz.func17, Tryz.ntmps17
  go_wp2_with (at_builtin; refine wpList_appN rfl _ _ 41 rfl w.heap.size 3 i0 (.int .i64 0) 1 8 Tryz.underlying41 hi hz0 hz1 hz2 rfl (by decide) _ 0 [] rfl (World.ownsRow_made w #[] 0 (Nat.le_refl _) (by unfold maxLen; omega) rfl) A n c (ints xs) rfl ?c1 ?c2 (ints_oneCell xs) ?c3 ?c4 ?c5 ?_)
  case c1 => rw [ints_length, hn]; omega
  case c2 => exact h.below ((Below.refl _ _).alloc (Nat.le_refl _) _)
  case c3 => unfold maxLen; omega
  case c4 => omega
  case c5 => simp
  intro v' w' hown _ hb hne
  rcases hown.2 with ⟨h0, _⟩ | ⟨g, cap, cur, rfl, _⟩
  · exact absurd h0 hne
  go_wp2
  go_ret
  exact ⟨_, _, rfl, hown, ((Below.refl _ _).alloc (Nat.le_refl _) _).trans hb⟩

/-- append of one number in a region: its one-element slice is block h. -/
theorem step_app_int {ops : Array Oper} {o : Oper} {a : Act} {K : Act → World → Prop} {Q : Exit → Act → World → Prop} {E : Prop} {V : World} (hgd : o.guard = none) (s x : Operand)
    (ho : o.op = .call { callee := .builtin .append, args := #[s, x], argTypes := #[41, 41] })
    (base : Nat) (v : Value) (n : Nat) (xs : List Int) (hs : a.eval s = v) (hown : V.ownsRow base 3 1 v n (ints xs))
    (h : Nat) (y : Int) (hx : a.eval x = .slice (some ⟨h, 0, none⟩) 1 1) (hcell : V.cell? ⟨h, 0, none⟩ = some (.int .i64 y)) (hbytes : (n + 1) * 8 ≤ 140737488355328) (hbase : base ≤ V.heap.size)
    (hk : ∀ g cap w', w'.ownsRow base 3 1 (.slice (some ⟨g, 0, none⟩) (n + 1) cap) (n + 1) (ints (xs ++ [y])) → V.grownBy w' v.ownBlock → Below base V w' → K (a.put o.dst (.slice (some ⟨g, 0, none⟩) (n + 1) cap)) w') :
    if Region.wanted o (yielded ops a.tmps) = true then Oper.wp Tryz.prog o a V K Q else E := by
  have hw : Region.wanted o (yielded ops a.tmps) = true := by simp [Region.wanted, hgd]
  rw [if_pos hw]
  obtain ⟨i0, hi, hz0, hz1, hz2⟩ := info_parts Tryz.infoInt
  refine wp_append_own _ s x 41 ho base 3 i0 (.int .i64 0) 1 8 Tryz.underlying41 hi hz0 hz1 hz2 rfl (by decide) v n (ints xs) hs hown ⟨h, 0, none⟩ 1 1 [.int .i64 y] hx rfl ?_ (by simp [Value.oneCell']) (by unfold maxLen; omega) hbytes hbase ?_
  · refine at_add (b := h) (o := 0) fun j u hu => ?_
    match j, hu with
    | 0, hu =>
      simp at hu
      subst hu
      exact hcell
  · intro v' w' h1 h2 _
    obtain ⟨g, cap, rfl, _, _⟩ := h1.form (by omega)
    exact hk g cap w' (by rw [ints_append]; exact h1) h2 (below_of_grown hown hbase h2)

end Go.Proofs.YtocnbbjcfgfgdaaGreatDoor

/- Names and rolls: isName, IsName, CheckDrum of roll and of the reference. -/
namespace Go.Proofs.YtocnbbjcfgfgdaaGreatDoor
open Go.RowKit
set_option maxHeartbeats 4000000
set_option maxRecDepth 20000

/-- May the byte c not stand at place k of a name? -/
def badAt (k : Nat) (c : Int) : Bool := decide (¬ (97 ≤ c ∧ c ≤ 122 ∨ 65 ≤ c ∧ c ≤ 90) ∧ (k = 0 ∨ c ≠ 45 ∧ ¬ (48 ≤ c ∧ c ≤ 57)))
def anyBad : List UInt8 → Nat → Bool
  | [], _ => false
  | c :: l, k => badAt k c.toNat || anyBad l (k + 1)
def nameOk (s : ByteArray) : Bool := !anyBad s.data.toList 0 && inR s.size 1 12

theorem bytesRow_get (s : ByteArray) (cap k : Nat) (hk : k < s.size) : (bytesRow s cap)[k]? = some (.int .u8 (s[k].toNat : Int)) := by
  unfold bytesRow
  rw [Array.getElem?_append_left (by simpa using hk)]
  simp only [Array.getElem?_map]
  rw [Array.getElem?_eq_getElem (by simpa using hk)]
  rfl

theorem anyBad_drop (s : ByteArray) (k : Nat) (hk : k < s.size) : anyBad (s.data.toList.drop k) k = (badAt k (s[k].toNat : Int) || anyBad (s.data.toList.drop (k + 1)) (k + 1)) := by
  rw [List.drop_eq_getElem_cons (by simpa using hk)]
  rfl
theorem anyBad_end (s : ByteArray) (k : Nat) (hk : ¬ k < s.size) : anyBad (s.data.toList.drop k) k = false := by
  rw [List.drop_of_length_le (by simp; omega)]
  rfl

theorem nameOk_bad {s : ByteArray} {k : Nat} {c : Nat} (hd : Hid (anyBad s.data.toList 0 = anyBad (s.data.toList.drop k) k))
    (hs : Hid (anyBad (s.data.toList.drop k) k = (badAt k c || anyBad (s.data.toList.drop (k + 1)) (k + 1)))) (hb : badAt k c = true) : nameOk s = false := by
  unfold nameOk; rw [hd.out, hs.out, hb]; rfl
theorem anyBad_on {s : ByteArray} {k : Nat} {c : Nat} (hd : Hid (anyBad s.data.toList 0 = anyBad (s.data.toList.drop k) k))
    (hs : Hid (anyBad (s.data.toList.drop k) k = (badAt k c || anyBad (s.data.toList.drop (k + 1)) (k + 1)))) (hb : badAt k c = false) : anyBad s.data.toList 0 = anyBad (s.data.toList.drop (k + 1)) (k + 1) := by
  rw [hd.out, hs.out, hb]; rfl
theorem ret_bool {a b : Bool} (h : a = b) : Ending.returned (.bool a) = .returned (.bool b) := by rw [h]

theorem isName_any (s : ByteArray) (w : World) (hs : s.size ≤ 140737488355328) :
    Calls Tryz.prog 68 #[.string s] w fun e w' => e = .returned (.bool (nameOk s)) ∧ Below w.heap.size w w' := by
  have hconv := run_bytes_of_string (P := Tryz.prog) w 9 116 5 s Tryz.underlying9 Tryz.underlying116 Tryz.underlying5
  have hC := bytesRow_get s (grownCap w s.size 0 5)
  generalize bytesRow s (grownCap w s.size 0 5) = C at *
  generalize grownCap w s.size 0 5 = cap at *
  have hC2 : ∀ (k : Nat) (hk : k < s.size), (w.alloc (.cells C 5 (C.size, C.size + 1))).cell? ⟨w.heap.size, k, none⟩ = some (.int .u8 (s[k].toNat : Int)) := fun k hk => by
    rw [cell_of_row _ _ _ _ _ _ (heap_alloc_new w _)]
    exact hC k hk
  have HC := Lib.hid hC2
  clear hC hC2
  have hfin := ((Below.refl w.heap.size w).alloc (Nat.le_refl _) (.cells C 5 (C.size, C.size + 1))).drew
  go_enter Tryz.func68, Tryz.ntmps68
  go_wp2
  go_loop [9] (fun i => ∃ k : Nat, k ≤ s.size ∧ i = .int .i64 k ∧ anyBad s.data.toList 0 = anyBad (s.data.toList.drop k) k) (fun i => s.size - (intOf i).toNat)
  case atStart => exact ⟨0, Nat.zero_le _, rfl, rfl⟩
  case round =>
    obtain ⟨k, hk, rfl, hd⟩ := hrel
    have HD := Lib.hid hd
    clear hd
    by_cases hlt : k < s.size
    · have hs0 := anyBad_drop s k hlt
      have HS := Lib.hid hs0
      clear hs0
      have hc := HC.out k hlt
      have hu := s[k].toNat_lt
      generalize (s[k].toNat : Nat) = c at *
      by_cases hk0 : k = 0 <;> by_cases h45 : c = 45 <;> cases hR : inR c 48 57
      all_goals
        have e0 : ((k : Int) == 0) = decide (k = 0) := by rw [Bool.eq_iff_iff, beq_iff_eq, decide_eq_true_iff]; omega
        have e1 : ((c : Int) != 45) = decide (c ≠ 45) := by rw [Bool.eq_iff_iff, bne_iff_ne, decide_eq_true_iff]; omega
        simp only [hk0, h45, decide_true, decide_false, not_true_eq_false, not_false_eq_true, ne_eq] at e0 e1
        have H0 := Lib.hid hk0
        have H45 := Lib.hid h45
        have HR := Lib.hid hR
        clear hk0 h45
        go_wp2_with (go_at_call 42; refine (within_any _ _ _ _).mono ?_; rintro e w' ⟨rfl, rfl⟩)
      all_goals
        have h0 := H0.out
        have h45 := H45.out
        have hR2 := HR.out
        first | rw [inR_true] at hR2 | rw [inR_false] at hR2
        try simp only [Bool.not_eq_eq_eq_not, Bool.not_true, Bool.not_false, decide_eq_true_eq, decide_eq_false_iff_not, bne_iff_ne, bne_eq_false_iff_eq, ne_eq] at *
        first
          | (exfalso; omega)
          | (go_ret; exact ⟨ret_bool (nameOk_bad HD HS (decide_eq_true (by omega))).symm, hfin⟩)
          | (go_round
             case rel => exact ⟨k + 1, by omega, by go_num, anyBad_on HD HS (decide_eq_false (by omega))⟩
             case measure => simp [intOf]; omega)
    · go_wp2_with (go_at_call 42; refine (within_any _ _ _ _).mono ?_; rintro e w' ⟨rfl, rfl⟩)
      go_ret
      have : nameOk s = inR s.size 1 12 := by unfold nameOk; rw [HD.out, anyBad_end s k hlt]; rfl
      exact ⟨ret_bool this.symm, hfin⟩

theorem bisName_any (s : ByteArray) (w : World) (hs : s.size ≤ 140737488355328) :
    Calls Tryz.prog 39 #[.string s] w fun e w' => e = .returned (.bool (nameOk s)) ∧ w = w' := by
  by_cases hsz : s.size < 1 ∨ 12 < s.size
  · have h1 : nameOk s = false := by unfold nameOk; rw [inR_false.2 (by omega), Bool.and_false]
    have H1 := Lib.hid h1
    clear h1
    by_cases h2 : s.size < 1
    · have h3 : (s.size : Int) < 1 := by omega
      go_enter Tryz.func39, Tryz.ntmps39
      go_wp2
      go_ret
      exact ⟨ret_bool H1.out.symm, rfl⟩
    · have h3 : 1 ≤ (s.size : Int) := by omega
      have h4 : 12 < (s.size : Int) := by omega
      go_enter Tryz.func39, Tryz.ntmps39
      go_wp2
      go_ret
      exact ⟨ret_bool H1.out.symm, rfl⟩
  have h3 : 1 ≤ (s.size : Int) := by omega
  have h4 : (s.size : Int) ≤ 12 := by omega
  have h1 : nameOk s = !anyBad s.data.toList 0 := by unfold nameOk; rw [inR_true.2 ⟨h3, h4⟩, Bool.and_true]
  have H1 := Lib.hid h1
  clear h1 hsz
  go_enter Tryz.func39, Tryz.ntmps39
  go_wp2
  go_loop [3] (fun i => ∃ k : Nat, k ≤ s.size ∧ i = .int .i64 k ∧ anyBad s.data.toList 0 = anyBad (s.data.toList.drop k) k) (fun i => s.size - (intOf i).toNat)
  case atStart => exact ⟨0, Nat.zero_le _, rfl, rfl⟩
  case round =>
    obtain ⟨k, hk, rfl, hd⟩ := hrel
    have HD := Lib.hid hd
    clear hd
    by_cases hlt : k < s.size
    · have hs0 := anyBad_drop s k hlt
      have HS := Lib.hid hs0
      clear hs0
      have hu := s[k].toNat_lt
      have hrun : ∀ w, (Instr.index 9 (.string s) (.int .i64 k)).run Tryz.prog w = .ok (.int .u8 (s[k].toNat : Int)) w := fun w => by simp [go_sem, hlt]
      generalize (s[k].toNat : Nat) = c at *
      by_cases hk0 : k = 0 <;> by_cases h45 : c = 45
      all_goals
        have e0 : ((k : Int) == 0) = decide (k = 0) := by rw [Bool.eq_iff_iff, beq_iff_eq, decide_eq_true_iff]; omega
        have e1 : ((c : Int) != 45) = decide (c ≠ 45) := by rw [Bool.eq_iff_iff, bne_iff_ne, decide_eq_true_iff]; omega
        simp only [hk0, h45, decide_true, decide_false, not_true_eq_false, not_false_eq_true, ne_eq] at e0 e1
        have H0 := Lib.hid hk0
        have H45 := Lib.hid h45
        clear hk0 h45
        go_wp2
      all_goals
        have h0 := H0.out
        have h45 := H45.out
        try simp only [Bool.not_eq_eq_eq_not, Bool.not_true, Bool.not_false, decide_eq_true_eq, decide_eq_false_iff_not, bne_iff_ne, bne_eq_false_iff_eq, ne_eq] at *
        first
          | (exfalso; omega)
          | (go_ret; exact ⟨ret_bool (nameOk_bad HD HS (decide_eq_true (by omega))).symm, rfl⟩)
          | (go_round
             case rel => exact ⟨k + 1, by omega, by go_num, anyBad_on HD HS (decide_eq_false (by omega))⟩
             case measure => simp [intOf]; omega)
    · go_wp2
      go_ret
      exact ⟨ret_bool (by rw [H1.out, HD.out, anyBad_end s k hlt]; rfl), rfl⟩

end Go.Proofs.YtocnbbjcfgfgdaaGreatDoor

/- Rolls: CheckDrum of roll and of the reference. -/
namespace Go.Proofs.YtocnbbjcfgfgdaaGreatDoor
open Go.RowKit
set_option maxHeartbeats 1000000
set_option maxRecDepth 20000

/-- The error of a roll. -/
def drumErr (nm : ByteArray) (p o : Int) : Int :=
  bif !nameOk nm then 4 else bif !inR p 4 64 then 2 else bif decide (p % 4 ≠ 0) then 3 else bif !inR o 0 (p - 1) then 2 else 0

theorem drum_eq (nm : ByteArray) (p o : Int) :
    fst0 [unl (nameOk nm) 4, unl (inR p 4 64) 2, unl (p.tmod 4 == 0) 3, unl (inR o 0 (IntKind.i64.wrap (p - 1))) 2] = drumErr nm p o := by
  unfold drumErr
  cases nameOk nm
  · rfl
  cases h : inR p 4 64
  · rfl
  rw [inR_true] at h
  have h1 : IntKind.i64.wrap (p - 1) = p - 1 := IntWalk.i64_in _ (by omega)
  have h2 : p.tmod 4 = p % 4 := Int.tmod_eq_emod_of_nonneg (by omega)
  rw [h1, h2]
  by_cases h3 : p % 4 = 0
  · cases h4 : inR o 0 (p - 1) <;> simp [fst0, unl, h3]
  · have h5 : (p % 4 == 0) = false := by simp [h3]
    simp [fst0, unl, h3, h5]

theorem checkDrum_any (nm : ByteArray) (p o : Int) (w : World) (hs : nm.size ≤ 140737488355328) (hp : I64 p) :
    Calls Tryz.prog 35 #[.agg #[.string nm, .int .i64 p, .int .i64 o]] w fun e w' => e = .returned (.int .i64 (drumErr nm p o)) ∧ Below w.heap.size w w' := by
  obtain ⟨hp1, hp2⟩ := hp
  go_enter Tryz.func35, Tryz.ntmps35
  go_wp2
  obtain ⟨W1, hW1⟩ : ∃ W1, W1 = w.alloc (.cells #[.string nm, .int .i64 p, .int .i64 o] 23) := ⟨_, rfl⟩
  have c0 : W1.cell? ⟨w.heap.size, 0, none⟩ = some (.string nm) := by rw [hW1]; simp
  have c1 : W1.cell? ⟨w.heap.size, 1, none⟩ = some (.int .i64 p) := by rw [hW1]; simp
  have c2 : W1.cell? ⟨w.heap.size, 2, none⟩ = some (.int .i64 o) := by rw [hW1]; simp
  have hz : w.heap.size < W1.heap.size := by rw [hW1]; simp
  have hb0 : Below w.heap.size w W1 := by rw [hW1]; exact (Below.refl _ _).alloc (Nat.le_refl _) _
  rw [← hW1]
  clear hW1
  go_region_held3 (fun w' => (∀ b o, b < W1.heap.size → w'.cell? ⟨b, o, none⟩ = W1.cell? ⟨b, o, none⟩) ∧ (∀ b o, b < W1.heap.size → w'.frozen? ⟨b, o, none⟩ = W1.frozen? ⟨b, o, none⟩) ∧ W1.heap.size ≤ w'.heap.size ∧ Below W1.heap.size W1 w') ((with_reducible first | assumption | exact heldS ((Below.refl _ _).drew) | exact heldS_step (by assumption) (by assumption) | exact heldS_alloc (by assumption) _ | exact heldS_drew (by assumption) | exact heldS_alloc (heldS_step (by assumption) (by assumption)) _ | exact heldS_allocD (by assumption) _ | exact heldS_below (by assumption) | exact heldS_own (by assumption) (by assumption)))
    ((first | (go_at_call 34; refine (unless_any _ _ _).mono ?_; rintro e w' ⟨rfl, rfl⟩) | (go_at_call 42; refine (within_any _ _ _ _).mono ?_; rintro e w' ⟨rfl, rfl⟩) | (go_at_call 68; refine (isName_any _ _ hs).mono ?_; rintro e w' ⟨rfl, hb1⟩) | (go_at_call 33; refine (first4_any _ _ _ _ _ _).mono ?_; rintro e w' ⟨rfl, rfl⟩)))
  rename_i hH
  have hB := hb0.trans (hH.2.2.2.mono (by omega))
  clear hH
  go_wp2
  go_ret
  exact ⟨ret_int (drum_eq nm p o), hB⟩

theorem bDrum_any (nm : ByteArray) (p o : Int) (w : World) (hs : nm.size ≤ 140737488355328) :
    Calls Tryz.prog 10 #[.agg #[.string nm, .int .i64 p, .int .i64 o]] w fun e w' => e = .returned (.int .i64 (drumErr nm p o)) ∧ Below w.heap.size w w' := by
  have hB := (Below.refl w.heap.size w).alloc (Nat.le_refl _) (.cells #[.string nm, .int .i64 p, .int .i64 o] 23)
  have hr : drumErr nm p o = drumErr nm p o := rfl
  cases h1 : nameOk nm
  · have hr : drumErr nm p o = 4 := by unfold drumErr; rw [h1]; rfl
    have HR := Lib.hid hr
    have H1 := Lib.hid h1
    clear hr h1
    go_enter Tryz.func10, Tryz.ntmps10
    go_wp2_with (first | (go_at_call 39; refine (bisName_any _ _ hs).mono ?_; rintro e w' ⟨rfl, rfl⟩; rw [H1.out]))
    go_ret
    exact ⟨ret_int HR.out.symm, hB⟩
  cases h2 : inR p 4 64
  · have hr : drumErr nm p o = 2 := by unfold drumErr; rw [h1, h2]; rfl
    have HR := Lib.hid hr
    have H1 := Lib.hid h1
    have H2 := Lib.hid h2
    clear hr h1 h2
    go_enter Tryz.func10, Tryz.ntmps10
    go_wp2_with (first | (go_at_call 39; refine (bisName_any _ _ hs).mono ?_; rintro e w' ⟨rfl, rfl⟩; rw [H1.out]) | (go_at_call 14; refine (bwithin_any _ _ _ _).mono ?_; rintro e w' ⟨rfl, rfl⟩; rw [H2.out]))
    go_ret
    exact ⟨ret_int HR.out.symm, hB⟩
  have h3 := inR_true.1 h2
  obtain ⟨h3a, h3b⟩ := h3
  have hm0 := Int.emod_nonneg p (show (4 : Int) ≠ 0 by omega)
  have hm1 := Int.emod_lt_of_pos p (show (0 : Int) < 4 by omega)
  by_cases h4 : p % 4 = 0
  · cases h5 : inR o 0 (p - 1)
    all_goals
      have hr2 : drumErr nm p o = bif inR o 0 (p - 1) then 0 else 2 := by unfold drumErr; rw [h1, h2, h5]; simp [h4]
      rw [h5] at hr2
      have HR := Lib.hid hr2
      have H1 := Lib.hid h1
      have H2 := Lib.hid h2
      have H5 := Lib.hid h5
      have h6 : (p % 4 != 0) = false := by simp [h4]
      have h6b : (p % 4 == 0) = true := by simp [h4]
      clear hr hr2 h1 h2 h5 h4
      go_enter Tryz.func10, Tryz.ntmps10
      go_wp2_with (first | (go_at_call 39; refine (bisName_any _ _ hs).mono ?_; rintro e w' ⟨rfl, rfl⟩; rw [H1.out]) | (go_at_call 14; refine (bwithin_any _ _ _ _).mono ?_; rintro e w' ⟨rfl, rfl⟩; (first | rw [H2.out] | rw [H5.out])))
      go_ret
      exact ⟨ret_int HR.out.symm, hB⟩
  · have hr2 : drumErr nm p o = 3 := by unfold drumErr; rw [h1, h2]; simp [h4]
    have HR := Lib.hid hr2
    have H1 := Lib.hid h1
    have H2 := Lib.hid h2
    have h6 : (p % 4 != 0) = true := by simp [h4]
    clear hr hr2 h1 h2
    go_enter Tryz.func10, Tryz.ntmps10
    go_wp2_with (first | (go_at_call 39; refine (bisName_any _ _ hs).mono ?_; rintro e w' ⟨rfl, rfl⟩; rw [H1.out]) | (go_at_call 14; refine (bwithin_any _ _ _ _).mono ?_; rintro e w' ⟨rfl, rfl⟩; rw [H2.out]))
    go_ret
    exact ⟨ret_int HR.out.symm, hB⟩

end Go.Proofs.YtocnbbjcfgfgdaaGreatDoor

/- Whole numbers in floats (float64): sums, differences and products of small whole numbers are exact. Nothing of the program. -/
namespace Go.Proofs.YtocnbbjcfgfgdaaGreatDoor

/-- The rung of a whole number above 0 and below 2^53. -/
def rung (n : Nat) : Nat := (n.log2 + 1022) * 2 ^ 52 + n * 2 ^ (52 - n.log2)

/-- The word x stands for the whole number n. -/
def Rep (x : Nat) (n : Int) : Prop := ∃ s : Bool, x = Ieee.double.word s (if n = 0 then 0 else rung n.natAbs) ∧ (n ≠ 0 → s = decide (n < 0))

theorem log2_lt53 {n : Nat} (h0 : 0 < n) (h : n < 2 ^ 53) : n.log2 ≤ 52 := by
  have : n.log2 < 53 := (Nat.log2_lt (by omega)).2 h
  omega

theorem scaled_lo {n : Nat} (h0 : 0 < n) (h : n < 2 ^ 53) : 2 ^ 52 ≤ n * 2 ^ (52 - n.log2) := by
  have hl := log2_lt53 h0 h
  have h1 : 2 ^ n.log2 ≤ n := Nat.log2_self_le (by omega)
  calc 2 ^ 52 = 2 ^ n.log2 * 2 ^ (52 - n.log2) := by rw [← Nat.pow_add]; congr 1; omega
    _ ≤ n * 2 ^ (52 - n.log2) := Nat.mul_le_mul_right _ h1
theorem scaled_hi {n : Nat} (h0 : 0 < n) (h : n < 2 ^ 53) : n * 2 ^ (52 - n.log2) < 2 ^ 53 := by
  have hl := log2_lt53 h0 h
  have h1 : n < 2 ^ (n.log2 + 1) := Nat.lt_log2_self
  calc n * 2 ^ (52 - n.log2) < 2 ^ (n.log2 + 1) * 2 ^ (52 - n.log2) := Nat.mul_lt_mul_of_pos_right h1 (Nat.two_pow_pos _)
    _ = 2 ^ 53 := by rw [← Nat.pow_add]; congr 1; omega

theorem read_at (P r m l : Nat) (s : Bool) (hP : 0 < P) (hr : r = (l + 1022) * P + m) (hm1 : P ≤ m) (hm2 : m < 2 * P) (hl : l ≤ 52) :
    (if r < P then Ieee.Datum.number s r (-1074) else if r < 2047 * P then Ieee.Datum.number s (P + r % P) (-1074 + (r / P - 1 : Nat)) else if r = 2047 * P then .infinity s else .nan s (r - 2047 * P)) = .number s m (l - 52 : Int) ∧ r < 2047 * P := by
  have e : r = (m - P) + P * (l + 1023) := by
    rw [hr, Nat.mul_comm, show l + 1023 = (l + 1022) + 1 by omega, Nat.mul_add P (l + 1022) 1]; omega
  have h1 : r % P = m - P := by rw [e, Nat.add_mul_mod_self_left, Nat.mod_eq_of_lt (by omega)]
  have h2 : r / P = l + 1023 := by rw [e, Nat.add_mul_div_left _ _ hP, Nat.div_eq_of_lt (by omega)]; omega
  have h3 : P * (l + 1023) + P ≤ 2047 * P := by
    rw [← Nat.mul_succ, Nat.mul_comm]
    exact Nat.mul_le_mul_right _ (by omega)
  have h4 : P * 1 ≤ P * (l + 1023) := Nat.mul_le_mul_left _ (by omega)
  have h5 : ¬ r < P := by omega
  have h6 : r < 2047 * P := by omega
  refine ⟨?_, h6⟩
  rw [if_neg h5, if_pos h6, h1, h2, show P + (m - P) = m by omega, show (-1074 + ((l + 1023 - 1 : Nat) : Int)) = (l : Int) - 52 by omega]

theorem read_word (s : Bool) {n : Nat} (h0 : 0 < n) (h : n < 2 ^ 53) :
    Ieee.double.read (Ieee.double.word s (rung n)) = .number s (n * 2 ^ (52 - n.log2)) (n.log2 - 52 : Int) := by
  have hl := log2_lt53 h0 h
  have h1 := scaled_lo h0 h
  have h2 := scaled_hi h0 h
  have hr : rung n = (n.log2 + 1022) * 2 ^ 52 + n * 2 ^ (52 - n.log2) := rfl
  have hw : Ieee.double.signWeight = 2048 * 2 ^ 52 := by decide
  have hb : Ieee.double.binade = 2 ^ 52 := by decide
  have hi : Ieee.double.infRung = 2047 * 2 ^ 52 := by decide
  have hp : Ieee.double.leastPlace = -1074 := by decide
  have p53 : (2 : Nat) ^ 53 = 2 * 2 ^ 52 := by decide
  rw [p53] at h2
  have hP : 0 < 2 ^ 52 := by decide
  generalize hm : n * 2 ^ (52 - n.log2) = m at *
  generalize n.log2 = l at *
  generalize rung n = r at *
  unfold Ieee.Format.read Ieee.Format.word
  simp only [hw, hb, hi, hp]
  clear hw hb hi hp p53 hm h
  generalize (2 : Nat) ^ 52 = P at *
  obtain ⟨key, hlt⟩ := read_at P r m l s hP hr h1 h2 hl
  have e0 : r < 2048 * P := by omega
  have e3 : 0 < 2048 * P := by omega
  cases s
  · simp only [Bool.false_eq_true, if_false]
    have e1 : (r / (2048 * P) % 2 == 1) = false := by rw [Nat.div_eq_of_lt e0]; rfl
    have e2 : r % (2048 * P) = r := Nat.mod_eq_of_lt e0
    rw [e1, e2]
    exact key
  · simp only [if_true]
    have e1 : ((2048 * P + r) / (2048 * P) % 2 == 1) = true := by
      have : (2048 * P + r) / (2048 * P) = 1 := by rw [Nat.add_div_left _ e3, Nat.div_eq_of_lt e0]
      rw [this]; rfl
    have e2 : (2048 * P + r) % (2048 * P) = r := by rw [Nat.add_mod_left]; exact Nat.mod_eq_of_lt e0
    rw [e1, e2]
    exact key

theorem cut_zero (s : Bool) (n d : Nat) (hd : d ≤ (n * 2 ^ d).log2 + 2) : Ieee.Toward.even.cut s (n * 2 ^ d) d = n := by
  unfold Ieee.Toward.cut
  have hp : 0 < 2 ^ d := Nat.two_pow_pos d
  simp only [Nat.min_eq_left hd, Nat.one_shiftLeft, Nat.mul_div_cancel _ hp, Nat.mul_mod_left]
  have : (decide (2 ^ d < 2 * 0) || (2 ^ d == 2 * 0 && n % 2 == 1)) = false := by
    have h1 : ¬ 2 ^ d < 2 * 0 := by omega
    have h2 : (2 ^ d == 2 * 0) = false := by simp
    simp [h2]
  simp

theorem log2_scale {n k : Nat} (h : 0 < n) : (n * 2 ^ k).log2 = n.log2 + k := by
  have h1 : 2 ^ n.log2 ≤ n := Nat.log2_self_le (by omega)
  have h2 : n < 2 ^ (n.log2 + 1) := Nat.lt_log2_self
  have h3 : 2 ^ (n.log2 + k) ≤ n * 2 ^ k := by rw [Nat.pow_add]; exact Nat.mul_le_mul_right _ h1
  have h4 : n * 2 ^ k < 2 ^ (n.log2 + k + 1) := by
    rw [show n.log2 + k + 1 = (n.log2 + 1) + k by omega, Nat.pow_add 2 (n.log2 + 1)]
    exact Nat.mul_lt_mul_of_pos_right h2 (Nat.two_pow_pos _)
  have h0 : n * 2 ^ k ≠ 0 := Nat.mul_ne_zero (by omega) (by have := Nat.two_pow_pos k; omega)
  have h5 : n.log2 + k ≤ (n * 2 ^ k).log2 := (Nat.le_log2 h0).2 h3
  have h6 : (n * 2 ^ k).log2 < n.log2 + k + 1 := (Nat.log2_lt h0).2 h4
  omega

theorem kept_at (s : Bool) (n k l : Nat) (hl : l ≤ 52) (hlog : (n * 2 ^ k).log2 = l + k) :
    Ieee.Toward.even.cut s ((n * 2 ^ k) <<< (-(k : Int) - ((l : Int) - 52)).toNat) (((l : Int) - 52) - -(k : Int)).toNat = n * 2 ^ (52 - l) := by
  by_cases hk : k ≤ 52 - l
  · have e1 : (-(k : Int) - ((l : Int) - 52)).toNat = 52 - l - k := by omega
    have e2 : (((l : Int) - 52) - -(k : Int)).toNat = 0 := by omega
    rw [e1, e2, Nat.shiftLeft_eq, Nat.mul_assoc, ← Nat.pow_add, show k + (52 - l - k) = 52 - l by omega]
    have := cut_zero s (n * 2 ^ (52 - l)) 0 (by omega)
    rw [Nat.pow_zero, Nat.mul_one] at this
    exact this
  · have e1 : (-(k : Int) - ((l : Int) - 52)).toNat = 0 := by omega
    have e2 : (((l : Int) - 52) - -(k : Int)).toNat = k - (52 - l) := by omega
    have e3 : n * 2 ^ k = n * 2 ^ (52 - l) * 2 ^ (k - (52 - l)) := by
      rw [Nat.mul_assoc, ← Nat.pow_add]; congr 2; omega
    rw [e1, e2, Nat.shiftLeft_zero]
    rw [e3] at hlog ⊢
    generalize n * 2 ^ (52 - l) = q at *
    exact cut_zero s _ _ (by omega)

theorem nearest_exact (s : Bool) {n : Nat} (k : Nat) (h0 : 0 < n) (h : n < 2 ^ 53) :
    Ieee.double.nearest s (n * 2 ^ k) (-(k : Int)) = Ieee.double.word s (rung n) := by
  have hl := log2_lt53 h0 h
  have h2 := scaled_hi h0 h
  have hz : n * 2 ^ k ≠ 0 := Nat.mul_ne_zero (by omega) (by have := Nat.two_pow_pos k; omega)
  have hb : Ieee.double.binade = 2 ^ 52 := by decide
  have hi : Ieee.double.infRung = 2047 * 2 ^ 52 := by decide
  have hp : Ieee.double.leastPlace = -1074 := by decide
  have hf : Ieee.double.fractionBits = 52 := rfl
  have hlog := log2_scale (k := k) h0
  have hcut := kept_at s n k n.log2 hl hlog
  have hrung : rung n = (n.log2 + 1022) * 2 ^ 52 + n * 2 ^ (52 - n.log2) := rfl
  have p53 : (2 : Nat) ^ 53 = 2 * 2 ^ 52 := by decide
  rw [p53] at h2
  have hP : 0 < 2 ^ 52 := by decide
  unfold Ieee.Format.nearest
  rw [if_neg hz]
  simp only [hb, hi, hp, hf, hlog]
  generalize n.log2 = l at *
  have hlast : max (-(k : Int) + ((l + k : Nat) : Int) - (52 : Nat)) (-1074) = (l : Int) - 52 := by omega
  rw [hlast, hcut, hrung]
  have e4 : ((l : Int) - 52 - -1074).toNat = l + 1022 := by omega
  rw [e4]
  generalize n * 2 ^ (52 - l) = m at *
  generalize (2 : Nat) ^ 52 = P at *
  have h3 : (l + 1022) * P ≤ 1074 * P := Nat.mul_le_mul_right _ (by omega)
  have h4 : 1074 * P + 2 * P ≤ 2047 * P := by omega
  rw [Nat.min_eq_left (by omega)]

theorem Rep.read {x : Nat} {n : Int} (h : Rep x n) (hn : n.natAbs < 2 ^ 53) :
    ∃ (s : Bool) (k : Nat), Ieee.double.read x = .number s (n.natAbs * 2 ^ k) (-(k : Int)) ∧ (n ≠ 0 → s = decide (n < 0)) := by
  obtain ⟨s, rfl, hs⟩ := h
  by_cases h0 : n = 0
  · subst h0
    obtain ⟨K, hK⟩ : ∃ K : Nat, K = 1074 := ⟨_, rfl⟩
    refine ⟨s, K, ?_, fun h => absurd rfl h⟩
    rw [if_pos rfl, Int.natAbs_zero, Nat.zero_mul, hK]
    cases s <;> decide
  · rw [if_neg h0]
    refine ⟨s, 52 - n.natAbs.log2, ?_, hs⟩
    have hl := log2_lt53 (n := n.natAbs) (by omega) hn
    rw [read_word s (by omega) hn]
    congr 1
    omega

theorem rep_nearest (s : Bool) (n : Int) (k : Nat) (hn : n.natAbs < 2 ^ 53) (hs : n ≠ 0 → s = decide (n < 0)) : Rep (Ieee.double.nearest s (n.natAbs * 2 ^ k) (-(k : Int))) n := by
  refine ⟨s, ?_, hs⟩
  by_cases h0 : n = 0
  · subst h0
    rw [if_pos rfl, Int.natAbs_zero, Nat.zero_mul]
    rfl
  · rw [if_neg h0, nearest_exact s k (by omega) hn]

theorem rep_ofInt (n : Int) (hn : n.natAbs < 2 ^ 53) : Rep (floatOfInt .f64 n) n := by
  have := rep_nearest (decide (n < 0)) n 0 hn (fun _ => rfl)
  rw [Nat.pow_zero, Nat.mul_one] at this
  exact this

theorem rep_mul {x y : Nat} {a b : Int} (hx : Rep x a) (hy : Rep y b) (ha : a.natAbs < 2 ^ 53) (hb : b.natAbs < 2 ^ 53) (hab : (a * b).natAbs < 2 ^ 53) :
    ∃ r, floatBits .mul .f64 x y = some r ∧ Rep r (a * b) := by
  obtain ⟨s, k, e1, h1⟩ := hx.read ha
  obtain ⟨t, j, e2, h2⟩ := hy.read hb
  have h3 : a * b ≠ 0 → (s ^^ t) = decide (a * b < 0) := fun hne => by
    have ha0 : a ≠ 0 := fun h => hne (by rw [h, Int.zero_mul])
    have hb0 : b ≠ 0 := fun h => hne (by rw [h, Int.mul_zero])
    rw [h1 ha0, h2 hb0]
    by_cases p : a < 0 <;> by_cases q : b < 0
    · have := Int.mul_pos_of_neg_of_neg p q
      simp [p, q]; omega
    · have := Int.mul_neg_of_neg_of_pos p (by omega : 0 < b)
      simp [p, q]; omega
    · have := Int.mul_neg_of_pos_of_neg (by omega : 0 < a) q
      simp [p, q]; omega
    · have := Int.mul_pos (by omega : 0 < a) (by omega : 0 < b)
      simp [p, q]; omega
  have h4 := rep_nearest (s ^^ t) (a * b) (k + j) hab h3
  refine ⟨_, ?_, h4⟩
  show Ieee.double.mul x y = _
  unfold Ieee.Format.mul
  rw [e1, e2]
  simp only [Ieee.Datum.product, Option.map_some, Ieee.Format.write]
  congr 2
  · rw [Int.natAbs_mul, Nat.pow_add]
    simp only [Nat.mul_assoc, Nat.mul_left_comm]
  · omega

theorem signed_scale (s : Bool) (a : Int) (k up : Nat) (h : a ≠ 0 → s = decide (a < 0)) : Ieee.signed s (a.natAbs * 2 ^ k) up = a * 2 ^ (k + up) := by
  have e : ((a.natAbs * 2 ^ k) <<< up : Nat) = a.natAbs * 2 ^ (k + up) := by rw [Nat.shiftLeft_eq, Nat.mul_assoc, ← Nat.pow_add]
  have e2 : (((a.natAbs * 2 ^ (k + up) : Nat)) : Int) = (a.natAbs : Int) * 2 ^ (k + up) := by rw [Int.natCast_mul, Int.natCast_pow]; rfl
  unfold Ieee.signed
  rw [e, e2]
  by_cases h0 : a = 0
  · subst h0; cases s <;> simp
  · rw [h h0]
    by_cases hneg : a < 0
    · rw [if_pos (by simpa using hneg)]
      have : (a.natAbs : Int) = -a := by omega
      rw [this, Int.neg_mul, Int.neg_neg]
    · rw [if_neg (by simpa using hneg)]
      have : (a.natAbs : Int) = a := by omega
      rw [this]

theorem sum_exact {s t : Bool} {a b : Int} {k j : Nat} (h1 : a ≠ 0 → s = decide (a < 0)) (h2 : b ≠ 0 → t = decide (b < 0)) (hab : (a + b).natAbs < 2 ^ 53) :
    ∃ r, ((Ieee.Datum.number s (a.natAbs * 2 ^ k) (-(k : Int))).sum (.number t (b.natAbs * 2 ^ j) (-(j : Int)))).map Ieee.double.write = some r ∧ Rep r (a + b) := by
  have hmin : min (-(k : Int)) (-(j : Int)) = -((max k j : Nat) : Int) := by omega
  have e1 : (-(k : Int) - min (-(k : Int)) (-(j : Int))).toNat = max k j - k := by omega
  have e2 : (-(j : Int) - min (-(k : Int)) (-(j : Int))).toNat = max k j - j := by omega
  have htot : Ieee.signed s (a.natAbs * 2 ^ k) (max k j - k) + Ieee.signed t (b.natAbs * 2 ^ j) (max k j - j) = (a + b) * 2 ^ (max k j) := by
    rw [signed_scale s a _ _ h1, signed_scale t b _ _ h2, show k + (max k j - k) = max k j by omega, show j + (max k j - j) = max k j by omega, Int.add_mul]
  simp only [Ieee.Datum.sum, e1, e2, htot]
  rw [hmin]
  have hp : (0 : Int) < 2 ^ (max k j) := by
    have := Nat.two_pow_pos (max k j)
    have e : ((2 ^ (max k j) : Nat) : Int) = 2 ^ (max k j) := by rw [Int.natCast_pow]; rfl
    omega
  have hn : ((a + b) * 2 ^ (max k j)).natAbs = (a + b).natAbs * 2 ^ (max k j) := by
    rw [Int.natAbs_mul, Int.natAbs_pow]; rfl
  rw [hn]
  refine ⟨_, rfl, ?_⟩
  refine rep_nearest _ (a + b) (max k j) hab fun hne => ?_
  rw [if_neg (Int.mul_ne_zero hne (by omega))]
  by_cases hneg : a + b < 0
  · have := Int.mul_neg_of_neg_of_pos hneg hp
    simp [hneg, this]
  · have := Int.mul_pos (by omega : 0 < a + b) hp
    simp [hneg]; omega

theorem rep_add {x y : Nat} {a b : Int} (hx : Rep x a) (hy : Rep y b) (ha : a.natAbs < 2 ^ 53) (hb : b.natAbs < 2 ^ 53) (hab : (a + b).natAbs < 2 ^ 53) :
    ∃ r, floatBits .add .f64 x y = some r ∧ Rep r (a + b) := by
  obtain ⟨s, k, e1, h1⟩ := hx.read ha
  obtain ⟨t, j, e2, h2⟩ := hy.read hb
  obtain ⟨r, hr, h⟩ := sum_exact h1 h2 hab (k := k) (j := j)
  refine ⟨r, ?_, h⟩
  show Ieee.double.add x y = _
  unfold Ieee.Format.add
  rw [e1, e2]
  exact hr

theorem rep_sub {x y : Nat} {a b : Int} (hx : Rep x a) (hy : Rep y b) (ha : a.natAbs < 2 ^ 53) (hb : b.natAbs < 2 ^ 53) (hab : (a - b).natAbs < 2 ^ 53) :
    ∃ r, floatBits .sub .f64 x y = some r ∧ Rep r (a - b) := by
  obtain ⟨s, k, e1, h1⟩ := hx.read ha
  obtain ⟨t, j, e2, h2⟩ := hy.read hb
  have h2' : (-b) ≠ 0 → (!t) = decide (-b < 0) := fun hne => by
    rw [h2 (by omega)]
    by_cases q : b < 0
    · rw [decide_eq_true q, decide_eq_false (by omega : ¬ -b < 0)]; rfl
    · rw [decide_eq_false q, decide_eq_true (by omega : -b < 0)]; rfl
  obtain ⟨r, hr, h⟩ := sum_exact h1 h2' (by rwa [← Int.sub_eq_add_neg]) (k := k) (j := j)
  rw [← Int.sub_eq_add_neg] at h
  refine ⟨r, ?_, h⟩
  show Ieee.double.sub x y = _
  unfold Ieee.Format.sub
  rw [e1, e2]
  rw [Int.natAbs_neg] at hr
  exact hr

theorem cut_zero' (s : Bool) (n d : Nat) (hd : d ≤ (n * 2 ^ d).log2 + 2) : Ieee.Toward.zero.cut s (n * 2 ^ d) d = n := by
  unfold Ieee.Toward.cut
  have hp : 0 < 2 ^ d := Nat.two_pow_pos d
  simp only [Nat.min_eq_left hd, Nat.one_shiftLeft, Nat.mul_div_cancel _ hp, Nat.mul_mod_left]
  simp

theorem rep_toInt {x : Nat} {n : Int} (h : Rep x n) (hn : n.natAbs < 2 ^ 53) : floatToIntVal .f64 x .i64 = some n := by
  obtain ⟨s, k, e1, h1⟩ := h.read hn
  have hk : (FloatKind.f64.decode x).toInt .zero = some n := by
    show (Ieee.double.read x).toInt .zero = some n
    rw [e1]
    unfold Ieee.Datum.toInt Ieee.Datum.integral
    have z1 : (-(k : Int)).toNat = 0 := by omega
    have z2 : (- -(k : Int)).toNat = k := by omega
    simp only [z1, z2, Nat.shiftLeft_zero]
    have hcut : Ieee.Toward.zero.cut s (n.natAbs * 2 ^ k) k = n.natAbs := by
      by_cases h0 : n = 0
      · subst h0
        rw [Int.natAbs_zero, Nat.zero_mul]
        unfold Ieee.Toward.cut
        simp
      · exact cut_zero' s _ k (by rw [log2_scale (by omega)]; omega)
    rw [hcut]
    have := signed_scale s n 0 0 h1
    rw [Nat.pow_zero, Nat.mul_one] at this
    rw [this]
    simp
  unfold floatToIntVal
  rw [hk]
  have hb : n.natAbs < 9007199254740992 := hn
  have : IntKind.i64.min ≤ n ∧ n ≤ IntKind.i64.max := by
    simp [IntKind.min, IntKind.max, IntKind.signed, IntKind.bits]
    omega
  exact if_pos this

theorem rep_cmul {x y u v : Nat} {a b c d : Int} (hx : Rep x a) (hy : Rep y b) (hu : Rep u c) (hv : Rep v d) (ha : a.natAbs ≤ 1000000000) (hb : b.natAbs ≤ 1000000000) (hc : c.natAbs ≤ 1) (hd : d.natAbs ≤ 1) :
    ∃ r i, cMulBits x y u v = some (r, i) ∧ Rep r (a * c - b * d) := by
  have p53 : (2 : Nat) ^ 53 = 9007199254740992 := by decide
  have hm : ∀ p q : Int, p.natAbs ≤ 1000000000 → q.natAbs ≤ 1 → (p * q).natAbs ≤ 1000000000 := fun p q hp hq => by
    rw [Int.natAbs_mul]
    calc p.natAbs * q.natAbs ≤ p.natAbs * 1 := Nat.mul_le_mul_left _ hq
      _ ≤ 1000000000 := by omega
  have m1 := hm a c ha hc
  have m2 := hm b d hb hd
  have m3 := hm a d ha hd
  have m4 := hm b c hb hc
  obtain ⟨ac, e1, r1⟩ := rep_mul hx hu (by omega) (by omega) (by omega)
  obtain ⟨bd, e2, r2⟩ := rep_mul hy hv (by omega) (by omega) (by omega)
  obtain ⟨re, e3, r3⟩ := rep_sub r1 r2 (by omega) (by omega) (by omega)
  obtain ⟨ad, e4, r4⟩ := rep_mul hx hv (by omega) (by omega) (by omega)
  obtain ⟨bc, e5, r5⟩ := rep_mul hy hu (by omega) (by omega) (by omega)
  obtain ⟨im, e6, r6⟩ := rep_add r4 r5 (by omega) (by omega) (by omega)
  exact ⟨re, im, by simp [cMulBits, e1, e2, e3, e4, e5, e6], r3⟩

theorem rep_one : Rep 4607182418800017408 1 := ⟨false, by decide, fun _ => rfl⟩
theorem rep_neg : Rep 13830554455654793216 (-1) := ⟨true, by decide, fun _ => rfl⟩
theorem rep_zero : Rep 0 0 := ⟨false, by decide, fun h => absurd rfl h⟩

end Go.Proofs.YtocnbbjcfgfgdaaGreatDoor

/- Quarters and waves of a roll. -/
namespace Go.Proofs.YtocnbbjcfgfgdaaGreatDoor
open Go.RowKit
set_option maxHeartbeats 1000000
set_option maxRecDepth 20000

/-- The quarter of a sample. -/
def qtr (p o k : Int) : Int := (k + o) % p * 4 / p

/-- A valid roll's numbers. -/
def Drum (p o : Int) : Prop := 4 ≤ p ∧ p ≤ 64 ∧ 0 ≤ o ∧ o ≤ p - 1

theorem qtr_lt {p o k : Int} (h : 4 ≤ p) : 0 ≤ qtr p o k ∧ qtr p o k < 4 := by
  have h1 := Int.emod_nonneg (k + o) (show p ≠ 0 by omega)
  have h2 := Int.emod_lt_of_pos (k + o) (show 0 < p by omega)
  unfold qtr
  constructor
  · exact Int.ediv_nonneg (by omega) (by omega)
  · exact Int.ediv_lt_of_lt_mul (by omega) (by omega)

theorem quarter_any (nm : ByteArray) (p o k : Int) (w : World) (hd : Drum p o) (hk0 : 0 ≤ k) (hk1 : k ≤ 1000000) :
    Calls Tryz.prog 69 #[.agg #[.string nm, .int .i64 p, .int .i64 o], .int .i64 k] w fun e w' => e = .returned (.int .i64 (qtr p o k)) ∧ Below w.heap.size w w' := by
  obtain ⟨h1, h2, h3, h4⟩ := hd
  have hp0 : p ≠ 0 := by omega
  have h5 := Int.emod_nonneg (k + o) hp0
  have h6 := Int.emod_lt_of_pos (k + o) (show 0 < p by omega)
  go_enter Tryz.func69, Tryz.ntmps69
  go_wp2
  go_quiet (fail)
  go_wp2
  go_ret
  exact ⟨rfl, below_drewN ((Below.refl _ _).alloc (Nat.le_refl _) _) _⟩

/-- The wave of an amplitude in a quarter. -/
def waveQ (q re im : Int) : Int := if q = 0 then re else if q = 1 then -im else if q = 2 then -re else im
def wave (p o re im k : Int) : Int := waveQ (qtr p o k) re im

end Go.Proofs.YtocnbbjcfgfgdaaGreatDoor

/- The waves of roll: complex numbers that stay whole. -/
namespace Go.Proofs.YtocnbbjcfgfgdaaGreatDoor
open Go.RowKit
set_option maxHeartbeats 1000000
set_option maxRecDepth 20000

theorem run_turn (P : Program) {x y u v : Nat} {a b c d n : Int} (t t1 t2 : TypeId) (hs : (P.underlying t1).isSome = true) (ht : P.underlying t2 = some (.int .i64)) (hx : Rep x a) (hy : Rep y b) (hu : Rep u c) (hv : Rep v d)
    (ha : a.natAbs ≤ 1000000000) (hb : b.natAbs ≤ 1000000000) (hc : c.natAbs ≤ 1) (hd : d.natAbs ≤ 1) (hn : a * c - b * d = n) :
    ∃ r i, (∀ w, (binOp .mul t (.complex .f64 x y) (.complex .f64 u v)).run P w = .ok (.complex .f64 r i) w) ∧ (∀ w, (convert t1 t2 (.float .f64 r)).run P w = .ok (.int .i64 n) w) := by
  obtain ⟨r, i, h1, h2⟩ := rep_cmul hx hy hu hv ha hb hc hd
  have hbig : (a * c - b * d).natAbs < 2 ^ 53 := by
    have p53 : (2 : Nat) ^ 53 = 9007199254740992 := by decide
    have hm : ∀ p q : Int, p.natAbs ≤ 1000000000 → q.natAbs ≤ 1 → (p * q).natAbs ≤ 1000000000 := fun p q hp hq => by
      rw [Int.natAbs_mul]
      calc p.natAbs * q.natAbs ≤ p.natAbs * 1 := Nat.mul_le_mul_left _ hq
        _ ≤ 1000000000 := by omega
    have := hm a c ha hc
    have := hm b d hb hd
    omega
  subst hn
  exact ⟨r, i, fun w => run_complex_mul w t x y u v r i h1, fun w => run_convert_float_int w t1 t2 .f64 .i64 r _ hs ht (rep_toInt h2 hbig)⟩

theorem wave_any (nm : ByteArray) (p o re im k : Int) (x y : Nat) (w : World) (hd : Drum p o) (hk0 : 0 ≤ k) (hk1 : k ≤ 1000000) (hx : Rep x re) (hy : Rep y im) (h1 : re.natAbs ≤ 1000000000) (h2 : im.natAbs ≤ 1000000000) :
    Calls Tryz.prog 43 #[.agg #[.string nm, .int .i64 p, .int .i64 o], .complex .f64 x y, .int .i64 k] w fun e w' => e = .returned (.int .i64 (wave p o re im k)) ∧ Below w.heap.size w w' := by
  obtain ⟨q0, q1⟩ := qtr_lt (p := p) (o := o) (k := k) hd.1
  have hst : ∀ (w : World) (a : Addr) (x y : Nat) (m : Mode), (store a (.complex .f64 x y) m).run Tryz.prog w = stored Tryz.prog w a (.complex .f64 x y) m := fun w a x y m => run_store _ w a _ m rfl
  go_enter Tryz.func43, Tryz.ntmps43
  go_wp2_with fail
  refine (quarter_any nm p o k _ hd hk0 hk1).mono ?_
  rintro e w' ⟨rfl, hb⟩
  have hw : wave p o re im k = waveQ (qtr p o k) re im := rfl
  have HW := Lib.hid hw
  clear hw
  generalize qtr p o k = q at *
  obtain ⟨hc, hf⟩ := bcell hb
  have hB := (((Below.refl w.heap.size w).alloc (Nat.le_refl _) (.cells #[.string nm, .int .i64 p, .int .i64 o] 84)).alloc (by simp) (.cells #[.complex .f64 4607182418800017408 0, .complex .f64 0 4607182418800017408, .complex .f64 13830554455654793216 0, .complex .f64 0 13830554455654793216] 127)).trans (hb.mono (by simp; omega))
  have hcase : q = 0 ∨ q = 1 ∨ q = 2 ∨ q = 3 := by omega
  rcases hcase with rfl | rfl | rfl | rfl
  · obtain ⟨r, i, m1, m2⟩ := run_turn Tryz.prog 86 128 3 (by rw [Tryz.underlying128]; rfl) Tryz.underlying3 hx hy rep_one rep_zero h1 h2 (by decide) (by decide) (show re * 1 - im * 0 = re by omega)
    go_wp2
    go_ret
    exact ⟨ret_int (by rw [HW.out]; rfl), hB⟩
  · obtain ⟨r, i, m1, m2⟩ := run_turn Tryz.prog 86 128 3 (by rw [Tryz.underlying128]; rfl) Tryz.underlying3 hx hy rep_zero rep_one h1 h2 (by decide) (by decide) (show re * 0 - im * 1 = -im by omega)
    go_wp2
    go_ret
    exact ⟨ret_int (by rw [HW.out]; rfl), hB⟩
  · obtain ⟨r, i, m1, m2⟩ := run_turn Tryz.prog 86 128 3 (by rw [Tryz.underlying128]; rfl) Tryz.underlying3 hx hy rep_neg rep_zero h1 h2 (by decide) (by decide) (show re * -1 - im * 0 = -re by omega)
    go_wp2
    go_ret
    exact ⟨ret_int (by rw [HW.out]; rfl), hB⟩
  · obtain ⟨r, i, m1, m2⟩ := run_turn Tryz.prog 86 128 3 (by rw [Tryz.underlying128]; rfl) Tryz.underlying3 hx hy rep_zero rep_neg h1 h2 (by decide) (by decide) (show re * 0 - im * -1 = im by omega)
    go_wp2
    go_ret
    exact ⟨ret_int (by rw [HW.out]; rfl), hB⟩

theorem numberOf_any (re im : Int) (w : World) :
    Calls Tryz.prog 44 #[.agg #[.int .i64 re, .int .i64 im]] w fun e w' => e = .returned (.complex .f64 (floatOfInt .f64 re) (floatOfInt .f64 im)) ∧ Below w.heap.size w w' := by
  go_enter Tryz.func44, Tryz.ntmps44
  go_wp2
  go_ret
  exact ⟨rfl, (Below.refl _ _).alloc (Nat.le_refl _) _⟩

/-- The error of an amplitude. -/
def ampErr (re im : Int) : Int := bif inR re (-1000000) 1000000 && inR im (-1000000) 1000000 then 0 else 2

theorem ampErr_any (re im : Int) (w : World) :
    Calls Tryz.prog 41 #[.agg #[.int .i64 re, .int .i64 im]] w fun e w' => e = .returned (.int .i64 (ampErr re im)) ∧ Below w.heap.size w w' := by
  have hr : ampErr re im = unl (inR re (-1000000) 1000000 && inR im (-1000000) 1000000) 2 := rfl
  have HR := Lib.hid hr
  clear hr
  have hB := (Below.refl w.heap.size w).alloc (Nat.le_refl _) (.cells #[.int .i64 re, .int .i64 im] 35)
  cases h : inR re (-1000000) 1000000
  all_goals
    have H := Lib.hid h
    clear h
    go_enter Tryz.func41, Tryz.ntmps41
    go_wp2_with (first | (go_at_call 55; refine (isSized_any _ _ _ ⟨by omega, by omega⟩).mono ?_; rintro e w' ⟨rfl, rfl⟩; try rw [H.out]) | (go_at_call 34; refine (unless_any _ _ _).mono ?_; rintro e w' ⟨rfl, rfl⟩))
    go_ret
    exact ⟨ret_int (by rw [HR.out, H.out]; rfl), hB⟩

theorem bampErr_any (re im : Int) (w : World) :
    Calls Tryz.prog 12 #[.agg #[.int .i64 re, .int .i64 im]] w fun e w' => e = .returned (.int .i64 (ampErr re im)) ∧ Below w.heap.size w w' := by
  have hr : ampErr re im = unl (inR re (-1000000) 1000000 && inR im (-1000000) 1000000) 2 := rfl
  have HR := Lib.hid hr
  clear hr
  have hB := (Below.refl w.heap.size w).alloc (Nat.le_refl _) (.cells #[.int .i64 re, .int .i64 im] 35)
  cases h : inR re (-1000000) 1000000 <;> cases h2 : inR im (-1000000) 1000000
  all_goals
    have H := Lib.hid h
    have H2 := Lib.hid h2
    clear h h2
    go_enter Tryz.func12, Tryz.ntmps12
    go_wp2_with (first | (go_at_call 14; refine (bwithin_any _ _ _ _).mono ?_; rintro e w' ⟨rfl, rfl⟩; first | rw [H.out] | rw [H2.out]))
    go_ret
    exact ⟨ret_int (by rw [HR.out, H.out, H2.out]; rfl), hB⟩

end Go.Proofs.YtocnbbjcfgfgdaaGreatDoor
