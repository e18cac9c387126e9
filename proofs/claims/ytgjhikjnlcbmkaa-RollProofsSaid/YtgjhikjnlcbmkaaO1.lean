/- Merged: XB XC XD XE XF XG XH XQ XI XJ. -/
import Derived.Test.YtgjhikjnlcbmkaaM1
import Derived.Test.YtgjhikjnlcbmkaaRows
import Derived.BigQuiet
import Derived.Deep.QuietTactic
import Derived.Shelf.Abstract
import Derived.Deep.RegionHeld3
import Derived.Laws.ComplexArith
set_option linter.unusedVariables false
set_option linter.unusedSimpArgs false
/- Leaf functions of roll and cobblebase on numbers: each call returns what the plain function gives. -/
namespace Go.Proofs.Ytgjhikjnlcbmkaa
open Go.RowKit

set_option maxHeartbeats 400000

theorem within_any (n lo hi : Int) (w : World) :
    Calls Try.prog 45 #[.int .i64 n, .int .i64 lo, .int .i64 hi] w fun e w' => e = .returned (.bool (inR n lo hi)) ∧ w = w' := by
  go_enter Try.func45, Try.ntmps45
  go_wp2
  · go_ret
    simp [inR, *]
  · go_ret
    have : ¬ lo ≤ n := by omega
    simp [inR, this]

def unl (b : Bool) (n : Int) : Int := bif b then 0 else n

def fst0 : List Int → Int
  | [] => 0
  | x :: l => bif x == 0 then fst0 l else x

theorem fst0_zero (l : List Int) : fst0 (0 :: l) = fst0 l := rfl
theorem fst0_ne {x : Int} (h : x ≠ 0) (l : List Int) : fst0 (x :: l) = x := by
  have : (x == 0) = false := by simp [h]
  simp only [fst0, this]; rfl
theorem fst0_one (x : Int) : fst0 [x] = x := by
  by_cases h : x = 0
  · rw [h]; rfl
  · exact fst0_ne h _

def low (n d : Int) : Int × Int := (n.tdiv (Int.gcd n d), d / (Int.gcd n d))
end Go.Proofs.Ytgjhikjnlcbmkaa

/- slices.ContainsFunc, CheckRecord of roll and of the reference. -/
namespace Go.Proofs.Ytgjhikjnlcbmkaa
open Go.RowKit
set_option maxHeartbeats 400000
set_option maxRecDepth 20000

def idxF (p : Int → Bool) : List Int → Nat → Int
  | [], _ => -1
  | x :: l, k => bif p x then k else idxF p l (k + 1)

theorem idxF_neg (p : Int → Bool) (xs : List Int) (k : Nat) : decide (0 ≤ idxF p xs k) = xs.any p := by
  induction xs generalizing k with
  | nil => rfl
  | cons x l ih =>
    unfold idxF
    cases h : p x
    · simp [h, ih]
    · simp [h]

end Go.Proofs.Ytgjhikjnlcbmkaa

/- Functions of cobblebase on numbers: Mod, Floor, Ceil, Size, Gcd, Lowest, Whole, Cmp, IsLowest. -/
namespace Go.Proofs.Ytgjhikjnlcbmkaa
open Go.RowKit
set_option maxHeartbeats 400000
set_option maxRecDepth 20000

end Go.Proofs.Ytgjhikjnlcbmkaa

/- Records: CheckRecord of roll and of the reference; slices of ints: Ints, CopyInts. -/
namespace Go.Proofs.Ytgjhikjnlcbmkaa
open Go.RowKit
set_option maxHeartbeats 400000
set_option maxRecDepth 20000

def recErr (x : List Int) : Int :=
  bif decide (x.length = 0) then 10 else bif decide (240 < x.length) then 8 else bif x.any (fun n => !inR n (-1000000) 1000000) then 2 else 0

theorem rec_eq (xs : List Int) (n : Nat) (hn : xs.length = n) :
    fst0 [unl (decide (0 < n)) 10, unl (decide ((n : Int) ≤ 240)) 8, unl (!xs.any fun n => !inR n (-1000000) 1000000) 2] = recErr xs := by
  subst hn
  unfold recErr
  generalize xs.any (fun n => !inR n (-1000000) 1000000) = q
  by_cases h0 : xs.length = 0
  · simp [h0, fst0, unl]
  by_cases h1 : 240 < xs.length
  · have h2 : ¬ (xs.length : Int) ≤ 240 := by omega
    have h3 : 0 < xs.length := by omega
    simp [h0, h1, h2, h3, fst0, unl]
  · have h2 : (xs.length : Int) ≤ 240 := by omega
    have h3 : 0 < xs.length := by omega
    cases q <;> simp [h0, h1, h2, h3, fst0, unl]

end Go.Proofs.Ytgjhikjnlcbmkaa

/- append on slices of ints, CopyInts. -/
namespace Go.Proofs.Ytgjhikjnlcbmkaa
open Go.RowKit
set_option maxHeartbeats 400000
set_option maxRecDepth 20000

end Go.Proofs.Ytgjhikjnlcbmkaa

/- Names and rolls: isName, IsName, CheckDrum of roll and of the reference. -/
namespace Go.Proofs.Ytgjhikjnlcbmkaa
open Go.RowKit
set_option maxHeartbeats 4000000
set_option maxRecDepth 20000

def badAt (k : Nat) (c : Int) : Bool := decide (¬ (97 ≤ c ∧ c ≤ 122 ∨ 65 ≤ c ∧ c ≤ 90) ∧ (k = 0 ∨ c ≠ 45 ∧ ¬ (48 ≤ c ∧ c ≤ 57)))
def anyBad : List UInt8 → Nat → Bool
  | [], _ => false
  | c :: l, k => badAt k c.toNat || anyBad l (k + 1)
def nameOk (s : ByteArray) : Bool := !anyBad s.data.toList 0 && inR s.size 1 12

theorem bytesRow_get (s : ByteArray) (cap k : Nat) (hk : k < s.size) : (bytesRow s cap)[k]? = some (.int .u8 (s[k].toNat : Int)) := by
  unfold bytesRow
  rw [Array.getElem?_append_left (by simpa using hk)]
  simp only [Array.getElem?_map]
  rw [Array.getElem?_eq_getElem (by simpa using hk)]
  rfl

theorem anyBad_drop (s : ByteArray) (k : Nat) (hk : k < s.size) : anyBad (s.data.toList.drop k) k = (badAt k (s[k].toNat : Int) || anyBad (s.data.toList.drop (k + 1)) (k + 1)) := by
  rw [List.drop_eq_getElem_cons (by simpa using hk)]
  rfl
theorem anyBad_end (s : ByteArray) (k : Nat) (hk : ¬ k < s.size) : anyBad (s.data.toList.drop k) k = false := by
  rw [List.drop_of_length_le (by simp; omega)]
  rfl

theorem nameOk_bad {s : ByteArray} {k : Nat} {c : Nat} (hd : Hid (anyBad s.data.toList 0 = anyBad (s.data.toList.drop k) k))
    (hs : Hid (anyBad (s.data.toList.drop k) k = (badAt k c || anyBad (s.data.toList.drop (k + 1)) (k + 1)))) (hb : badAt k c = true) : nameOk s = false := by
  unfold nameOk; rw [hd.out, hs.out, hb]; rfl
theorem anyBad_on {s : ByteArray} {k : Nat} {c : Nat} (hd : Hid (anyBad s.data.toList 0 = anyBad (s.data.toList.drop k) k))
    (hs : Hid (anyBad (s.data.toList.drop k) k = (badAt k c || anyBad (s.data.toList.drop (k + 1)) (k + 1)))) (hb : badAt k c = false) : anyBad s.data.toList 0 = anyBad (s.data.toList.drop (k + 1)) (k + 1) := by
  rw [hd.out, hs.out, hb]; rfl
theorem ret_bool {a b : Bool} (h : a = b) : Ending.returned (.bool a) = .returned (.bool b) := by rw [h]

theorem isName_any (s : ByteArray) (w : World) (hs : s.size ≤ 140737488355328) :
    Calls Try.prog 91 #[.string s] w fun e w' => e = .returned (.bool (nameOk s)) ∧ Below w.heap.size w w' := by
  have hconv := run_bytes_of_string (P := Try.prog) w 9 148 5 s Try.underlying9 Try.underlying148 Try.underlying5
  have hC := bytesRow_get s (grownCap w s.size 0 5)
  generalize bytesRow s (grownCap w s.size 0 5) = C at *
  generalize grownCap w s.size 0 5 = cap at *
  have hC2 : ∀ (k : Nat) (hk : k < s.size), (w.alloc (.cells C 5 (C.size, C.size + 1))).cell? ⟨w.heap.size, k, none⟩ = some (.int .u8 (s[k].toNat : Int)) := fun k hk => by
    rw [cell_of_row _ _ _ _ _ _ (heap_alloc_new w _)]
    exact hC k hk
  have HC := Lib.hid hC2
  clear hC hC2
  have hfin := ((Below.refl w.heap.size w).alloc (Nat.le_refl _) (.cells C 5 (C.size, C.size + 1))).drew
  go_enter Try.func91, Try.ntmps91
  go_wp2
  go_loop [9] (fun i => ∃ k : Nat, k ≤ s.size ∧ i = .int .i64 k ∧ anyBad s.data.toList 0 = anyBad (s.data.toList.drop k) k) (fun i => s.size - (intOf i).toNat)
  case atStart => exact ⟨0, Nat.zero_le _, rfl, rfl⟩
  case round =>
    obtain ⟨k, hk, rfl, hd⟩ := hrel
    have HD := Lib.hid hd
    clear hd
    by_cases hlt : k < s.size
    · have hs0 := anyBad_drop s k hlt
      have HS := Lib.hid hs0
      clear hs0
      have hc := HC.out k hlt
      have hu := s[k].toNat_lt
      generalize (s[k].toNat : Nat) = c at *
      by_cases hk0 : k = 0 <;> by_cases h45 : c = 45 <;> cases hR : inR c 48 57
      all_goals
        have e0 : ((k : Int) == 0) = decide (k = 0) := by rw [Bool.eq_iff_iff, beq_iff_eq, decide_eq_true_iff]; omega
        have e1 : ((c : Int) != 45) = decide (c ≠ 45) := by rw [Bool.eq_iff_iff, bne_iff_ne, decide_eq_true_iff]; omega
        simp only [hk0, h45, decide_true, decide_false, not_true_eq_false, not_false_eq_true, ne_eq] at e0 e1
        have H0 := Lib.hid hk0
        have H45 := Lib.hid h45
        have HR := Lib.hid hR
        clear hk0 h45
        go_wp2_with (go_at_call 45; refine (within_any _ _ _ _).mono ?_; rintro e w' ⟨rfl, rfl⟩)
      all_goals
        have h0 := H0.out
        have h45 := H45.out
        have hR2 := HR.out
        first | rw [inR_true] at hR2 | rw [inR_false] at hR2
        try simp only [Bool.not_eq_eq_eq_not, Bool.not_true, Bool.not_false, decide_eq_true_eq, decide_eq_false_iff_not, bne_iff_ne, bne_eq_false_iff_eq, ne_eq] at *
        first
          | (exfalso; omega)
          | (go_ret; exact ⟨ret_bool (nameOk_bad HD HS (decide_eq_true (by omega))).symm, hfin⟩)
          | (go_round
             case rel => exact ⟨k + 1, by omega, by go_num, anyBad_on HD HS (decide_eq_false (by omega))⟩
             case measure => simp [intOf]; omega)
    · go_wp2_with (go_at_call 45; refine (within_any _ _ _ _).mono ?_; rintro e w' ⟨rfl, rfl⟩)
      go_ret
      have : nameOk s = inR s.size 1 12 := by unfold nameOk; rw [HD.out, anyBad_end s k hlt]; rfl
      exact ⟨ret_bool this.symm, hfin⟩

theorem bisName_any (s : ByteArray) (w : World) (hs : s.size ≤ 140737488355328) :
    Calls Try.prog 69 #[.string s] w fun e w' => e = .returned (.bool (nameOk s)) ∧ w = w' := by
  by_cases hsz : s.size < 1 ∨ 12 < s.size
  · have h1 : nameOk s = false := by unfold nameOk; rw [inR_false.2 (by omega), Bool.and_false]
    have H1 := Lib.hid h1
    clear h1
    by_cases h2 : s.size < 1
    · have h3 : (s.size : Int) < 1 := by omega
      go_enter Try.func69, Try.ntmps69
      go_wp2
      go_ret
      exact ⟨ret_bool H1.out.symm, rfl⟩
    · have h3 : 1 ≤ (s.size : Int) := by omega
      have h4 : 12 < (s.size : Int) := by omega
      go_enter Try.func69, Try.ntmps69
      go_wp2
      go_ret
      exact ⟨ret_bool H1.out.symm, rfl⟩
  have h3 : 1 ≤ (s.size : Int) := by omega
  have h4 : (s.size : Int) ≤ 12 := by omega
  have h1 : nameOk s = !anyBad s.data.toList 0 := by unfold nameOk; rw [inR_true.2 ⟨h3, h4⟩, Bool.and_true]
  have H1 := Lib.hid h1
  clear h1 hsz
  go_enter Try.func69, Try.ntmps69
  go_wp2
  go_loop [3] (fun i => ∃ k : Nat, k ≤ s.size ∧ i = .int .i64 k ∧ anyBad s.data.toList 0 = anyBad (s.data.toList.drop k) k) (fun i => s.size - (intOf i).toNat)
  case atStart => exact ⟨0, Nat.zero_le _, rfl, rfl⟩
  case round =>
    obtain ⟨k, hk, rfl, hd⟩ := hrel
    have HD := Lib.hid hd
    clear hd
    by_cases hlt : k < s.size
    · have hs0 := anyBad_drop s k hlt
      have HS := Lib.hid hs0
      clear hs0
      have hu := s[k].toNat_lt
      have hrun : ∀ w, (Instr.index 9 (.string s) (.int .i64 k)).run Try.prog w = .ok (.int .u8 (s[k].toNat : Int)) w := fun w => by simp [go_sem, hlt]
      generalize (s[k].toNat : Nat) = c at *
      by_cases hk0 : k = 0 <;> by_cases h45 : c = 45
      all_goals
        have e0 : ((k : Int) == 0) = decide (k = 0) := by rw [Bool.eq_iff_iff, beq_iff_eq, decide_eq_true_iff]; omega
        have e1 : ((c : Int) != 45) = decide (c ≠ 45) := by rw [Bool.eq_iff_iff, bne_iff_ne, decide_eq_true_iff]; omega
        simp only [hk0, h45, decide_true, decide_false, not_true_eq_false, not_false_eq_true, ne_eq] at e0 e1
        have H0 := Lib.hid hk0
        have H45 := Lib.hid h45
        clear hk0 h45
        go_wp2
      all_goals
        have h0 := H0.out
        have h45 := H45.out
        try simp only [Bool.not_eq_eq_eq_not, Bool.not_true, Bool.not_false, decide_eq_true_eq, decide_eq_false_iff_not, bne_iff_ne, bne_eq_false_iff_eq, ne_eq] at *
        first
          | (exfalso; omega)
          | (go_ret; exact ⟨ret_bool (nameOk_bad HD HS (decide_eq_true (by omega))).symm, rfl⟩)
          | (go_round
             case rel => exact ⟨k + 1, by omega, by go_num, anyBad_on HD HS (decide_eq_false (by omega))⟩
             case measure => simp [intOf]; omega)
    · go_wp2
      go_ret
      exact ⟨ret_bool (by rw [H1.out, HD.out, anyBad_end s k hlt]; rfl), rfl⟩

end Go.Proofs.Ytgjhikjnlcbmkaa

/- Rolls: CheckDrum of roll and of the reference. -/
namespace Go.Proofs.Ytgjhikjnlcbmkaa
open Go.RowKit
set_option maxHeartbeats 1000000
set_option maxRecDepth 20000

def drumErr (nm : ByteArray) (p o : Int) : Int :=
  bif !nameOk nm then 4 else bif !inR p 4 64 then 2 else bif decide (p % 4 ≠ 0) then 3 else bif !inR o 0 (p - 1) then 2 else 0

theorem drum_eq (nm : ByteArray) (p o : Int) :
    fst0 [unl (nameOk nm) 4, unl (inR p 4 64) 2, unl (p.tmod 4 == 0) 3, unl (inR o 0 (IntKind.i64.wrap (p - 1))) 2] = drumErr nm p o := by
  unfold drumErr
  cases nameOk nm
  · rfl
  cases h : inR p 4 64
  · rfl
  rw [inR_true] at h
  have h1 : IntKind.i64.wrap (p - 1) = p - 1 := IntWalk.i64_in _ (by omega)
  have h2 : p.tmod 4 = p % 4 := Int.tmod_eq_emod_of_nonneg (by omega)
  rw [h1, h2]
  by_cases h3 : p % 4 = 0
  · cases h4 : inR o 0 (p - 1) <;> simp [fst0, unl, h3]
  · have h5 : (p % 4 == 0) = false := by simp [h3]
    simp [fst0, unl, h3, h5]

end Go.Proofs.Ytgjhikjnlcbmkaa

/- Whole numbers in floats (float64): sums, differences and products of small whole numbers are exact. Nothing of the program. -/
namespace Go.Proofs.Ytgjhikjnlcbmkaa

def rung (n : Nat) : Nat := (n.log2 + 1022) * 2 ^ 52 + n * 2 ^ (52 - n.log2)

def Rep (x : Nat) (n : Int) : Prop := ∃ s : Bool, x = Ieee.double.word s (if n = 0 then 0 else rung n.natAbs) ∧ (n ≠ 0 → s = decide (n < 0))

theorem log2_lt53 {n : Nat} (h0 : 0 < n) (h : n < 2 ^ 53) : n.log2 ≤ 52 := by
  have : n.log2 < 53 := (Nat.log2_lt (by omega)).2 h
  omega

theorem scaled_lo {n : Nat} (h0 : 0 < n) (h : n < 2 ^ 53) : 2 ^ 52 ≤ n * 2 ^ (52 - n.log2) := by
  have hl := log2_lt53 h0 h
  have h1 : 2 ^ n.log2 ≤ n := Nat.log2_self_le (by omega)
  calc 2 ^ 52 = 2 ^ n.log2 * 2 ^ (52 - n.log2) := by rw [← Nat.pow_add]; congr 1; omega
    _ ≤ n * 2 ^ (52 - n.log2) := Nat.mul_le_mul_right _ h1
theorem scaled_hi {n : Nat} (h0 : 0 < n) (h : n < 2 ^ 53) : n * 2 ^ (52 - n.log2) < 2 ^ 53 := by
  have hl := log2_lt53 h0 h
  have h1 : n < 2 ^ (n.log2 + 1) := Nat.lt_log2_self
  calc n * 2 ^ (52 - n.log2) < 2 ^ (n.log2 + 1) * 2 ^ (52 - n.log2) := Nat.mul_lt_mul_of_pos_right h1 (Nat.two_pow_pos _)
    _ = 2 ^ 53 := by rw [← Nat.pow_add]; congr 1; omega

theorem read_at (P r m l : Nat) (s : Bool) (hP : 0 < P) (hr : r = (l + 1022) * P + m) (hm1 : P ≤ m) (hm2 : m < 2 * P) (hl : l ≤ 52) :
    (if r < P then Ieee.Datum.number s r (-1074) else if r < 2047 * P then Ieee.Datum.number s (P + r % P) (-1074 + (r / P - 1 : Nat)) else if r = 2047 * P then .infinity s else .nan s (r - 2047 * P)) = .number s m (l - 52 : Int) ∧ r < 2047 * P := by
  have e : r = (m - P) + P * (l + 1023) := by
    rw [hr, Nat.mul_comm, show l + 1023 = (l + 1022) + 1 by omega, Nat.mul_add P (l + 1022) 1]; omega
  have h1 : r % P = m - P := by rw [e, Nat.add_mul_mod_self_left, Nat.mod_eq_of_lt (by omega)]
  have h2 : r / P = l + 1023 := by rw [e, Nat.add_mul_div_left _ _ hP, Nat.div_eq_of_lt (by omega)]; omega
  have h3 : P * (l + 1023) + P ≤ 2047 * P := by
    rw [← Nat.mul_succ, Nat.mul_comm]
    exact Nat.mul_le_mul_right _ (by omega)
  have h4 : P * 1 ≤ P * (l + 1023) := Nat.mul_le_mul_left _ (by omega)
  have h5 : ¬ r < P := by omega
  have h6 : r < 2047 * P := by omega
  refine ⟨?_, h6⟩
  rw [if_neg h5, if_pos h6, h1, h2, show P + (m - P) = m by omega, show (-1074 + ((l + 1023 - 1 : Nat) : Int)) = (l : Int) - 52 by omega]

theorem read_word (s : Bool) {n : Nat} (h0 : 0 < n) (h : n < 2 ^ 53) :
    Ieee.double.read (Ieee.double.word s (rung n)) = .number s (n * 2 ^ (52 - n.log2)) (n.log2 - 52 : Int) := by
  have hl := log2_lt53 h0 h
  have h1 := scaled_lo h0 h
  have h2 := scaled_hi h0 h
  have hr : rung n = (n.log2 + 1022) * 2 ^ 52 + n * 2 ^ (52 - n.log2) := rfl
  have hw : Ieee.double.signWeight = 2048 * 2 ^ 52 := by decide
  have hb : Ieee.double.binade = 2 ^ 52 := by decide
  have hi : Ieee.double.infRung = 2047 * 2 ^ 52 := by decide
  have hp : Ieee.double.leastPlace = -1074 := by decide
  have p53 : (2 : Nat) ^ 53 = 2 * 2 ^ 52 := by decide
  rw [p53] at h2
  have hP : 0 < 2 ^ 52 := by decide
  generalize hm : n * 2 ^ (52 - n.log2) = m at *
  generalize n.log2 = l at *
  generalize rung n = r at *
  unfold Ieee.Format.read Ieee.Format.word
  simp only [hw, hb, hi, hp]
  clear hw hb hi hp p53 hm h
  generalize (2 : Nat) ^ 52 = P at *
  obtain ⟨key, hlt⟩ := read_at P r m l s hP hr h1 h2 hl
  have e0 : r < 2048 * P := by omega
  have e3 : 0 < 2048 * P := by omega
  cases s
  · simp only [Bool.false_eq_true, if_false]
    have e1 : (r / (2048 * P) % 2 == 1) = false := by rw [Nat.div_eq_of_lt e0]; rfl
    have e2 : r % (2048 * P) = r := Nat.mod_eq_of_lt e0
    rw [e1, e2]
    exact key
  · simp only [if_true]
    have e1 : ((2048 * P + r) / (2048 * P) % 2 == 1) = true := by
      have : (2048 * P + r) / (2048 * P) = 1 := by rw [Nat.add_div_left _ e3, Nat.div_eq_of_lt e0]
      rw [this]; rfl
    have e2 : (2048 * P + r) % (2048 * P) = r := by rw [Nat.add_mod_left]; exact Nat.mod_eq_of_lt e0
    rw [e1, e2]
    exact key

theorem cut_zero (s : Bool) (n d : Nat) (hd : d ≤ (n * 2 ^ d).log2 + 2) : Ieee.Toward.even.cut s (n * 2 ^ d) d = n := by
  unfold Ieee.Toward.cut
  have hp : 0 < 2 ^ d := Nat.two_pow_pos d
  simp only [Nat.min_eq_left hd, Nat.one_shiftLeft, Nat.mul_div_cancel _ hp, Nat.mul_mod_left]
  have : (decide (2 ^ d < 2 * 0) || (2 ^ d == 2 * 0 && n % 2 == 1)) = false := by
    have h1 : ¬ 2 ^ d < 2 * 0 := by omega
    have h2 : (2 ^ d == 2 * 0) = false := by simp
    simp [h2]
  simp

theorem log2_scale {n k : Nat} (h : 0 < n) : (n * 2 ^ k).log2 = n.log2 + k := by
  have h1 : 2 ^ n.log2 ≤ n := Nat.log2_self_le (by omega)
  have h2 : n < 2 ^ (n.log2 + 1) := Nat.lt_log2_self
  have h3 : 2 ^ (n.log2 + k) ≤ n * 2 ^ k := by rw [Nat.pow_add]; exact Nat.mul_le_mul_right _ h1
  have h4 : n * 2 ^ k < 2 ^ (n.log2 + k + 1) := by
    rw [show n.log2 + k + 1 = (n.log2 + 1) + k by omega, Nat.pow_add 2 (n.log2 + 1)]
    exact Nat.mul_lt_mul_of_pos_right h2 (Nat.two_pow_pos _)
  have h0 : n * 2 ^ k ≠ 0 := Nat.mul_ne_zero (by omega) (by have := Nat.two_pow_pos k; omega)
  have h5 : n.log2 + k ≤ (n * 2 ^ k).log2 := (Nat.le_log2 h0).2 h3
  have h6 : (n * 2 ^ k).log2 < n.log2 + k + 1 := (Nat.log2_lt h0).2 h4
  omega

theorem kept_at (s : Bool) (n k l : Nat) (hl : l ≤ 52) (hlog : (n * 2 ^ k).log2 = l + k) :
    Ieee.Toward.even.cut s ((n * 2 ^ k) <<< (-(k : Int) - ((l : Int) - 52)).toNat) (((l : Int) - 52) - -(k : Int)).toNat = n * 2 ^ (52 - l) := by
  by_cases hk : k ≤ 52 - l
  · have e1 : (-(k : Int) - ((l : Int) - 52)).toNat = 52 - l - k := by omega
    have e2 : (((l : Int) - 52) - -(k : Int)).toNat = 0 := by omega
    rw [e1, e2, Nat.shiftLeft_eq, Nat.mul_assoc, ← Nat.pow_add, show k + (52 - l - k) = 52 - l by omega]
    have := cut_zero s (n * 2 ^ (52 - l)) 0 (by omega)
    rw [Nat.pow_zero, Nat.mul_one] at this
    exact this
  · have e1 : (-(k : Int) - ((l : Int) - 52)).toNat = 0 := by omega
    have e2 : (((l : Int) - 52) - -(k : Int)).toNat = k - (52 - l) := by omega
    have e3 : n * 2 ^ k = n * 2 ^ (52 - l) * 2 ^ (k - (52 - l)) := by
      rw [Nat.mul_assoc, ← Nat.pow_add]; congr 2; omega
    rw [e1, e2, Nat.shiftLeft_zero]
    rw [e3] at hlog ⊢
    generalize n * 2 ^ (52 - l) = q at *
    exact cut_zero s _ _ (by omega)

theorem nearest_exact (s : Bool) {n : Nat} (k : Nat) (h0 : 0 < n) (h : n < 2 ^ 53) :
    Ieee.double.nearest s (n * 2 ^ k) (-(k : Int)) = Ieee.double.word s (rung n) := by
  have hl := log2_lt53 h0 h
  have h2 := scaled_hi h0 h
  have hz : n * 2 ^ k ≠ 0 := Nat.mul_ne_zero (by omega) (by have := Nat.two_pow_pos k; omega)
  have hb : Ieee.double.binade = 2 ^ 52 := by decide
  have hi : Ieee.double.infRung = 2047 * 2 ^ 52 := by decide
  have hp : Ieee.double.leastPlace = -1074 := by decide
  have hf : Ieee.double.fractionBits = 52 := rfl
  have hlog := log2_scale (k := k) h0
  have hcut := kept_at s n k n.log2 hl hlog
  have hrung : rung n = (n.log2 + 1022) * 2 ^ 52 + n * 2 ^ (52 - n.log2) := rfl
  have p53 : (2 : Nat) ^ 53 = 2 * 2 ^ 52 := by decide
  rw [p53] at h2
  have hP : 0 < 2 ^ 52 := by decide
  unfold Ieee.Format.nearest
  rw [if_neg hz]
  simp only [hb, hi, hp, hf, hlog]
  generalize n.log2 = l at *
  have hlast : max (-(k : Int) + ((l + k : Nat) : Int) - (52 : Nat)) (-1074) = (l : Int) - 52 := by omega
  rw [hlast, hcut, hrung]
  have e4 : ((l : Int) - 52 - -1074).toNat = l + 1022 := by omega
  rw [e4]
  generalize n * 2 ^ (52 - l) = m at *
  generalize (2 : Nat) ^ 52 = P at *
  have h3 : (l + 1022) * P ≤ 1074 * P := Nat.mul_le_mul_right _ (by omega)
  have h4 : 1074 * P + 2 * P ≤ 2047 * P := by omega
  rw [Nat.min_eq_left (by omega)]

theorem Rep.read {x : Nat} {n : Int} (h : Rep x n) (hn : n.natAbs < 2 ^ 53) :
    ∃ (s : Bool) (k : Nat), Ieee.double.read x = .number s (n.natAbs * 2 ^ k) (-(k : Int)) ∧ (n ≠ 0 → s = decide (n < 0)) := by
  obtain ⟨s, rfl, hs⟩ := h
  by_cases h0 : n = 0
  · subst h0
    obtain ⟨K, hK⟩ : ∃ K : Nat, K = 1074 := ⟨_, rfl⟩
    refine ⟨s, K, ?_, fun h => absurd rfl h⟩
    rw [if_pos rfl, Int.natAbs_zero, Nat.zero_mul, hK]
    cases s <;> decide
  · rw [if_neg h0]
    refine ⟨s, 52 - n.natAbs.log2, ?_, hs⟩
    have hl := log2_lt53 (n := n.natAbs) (by omega) hn
    rw [read_word s (by omega) hn]
    congr 1
    omega

theorem rep_nearest (s : Bool) (n : Int) (k : Nat) (hn : n.natAbs < 2 ^ 53) (hs : n ≠ 0 → s = decide (n < 0)) : Rep (Ieee.double.nearest s (n.natAbs * 2 ^ k) (-(k : Int))) n := by
  refine ⟨s, ?_, hs⟩
  by_cases h0 : n = 0
  · subst h0
    rw [if_pos rfl, Int.natAbs_zero, Nat.zero_mul]
    rfl
  · rw [if_neg h0, nearest_exact s k (by omega) hn]

theorem rep_ofInt (n : Int) (hn : n.natAbs < 2 ^ 53) : Rep (floatOfInt .f64 n) n := by
  have := rep_nearest (decide (n < 0)) n 0 hn (fun _ => rfl)
  rw [Nat.pow_zero, Nat.mul_one] at this
  exact this

theorem rep_mul {x y : Nat} {a b : Int} (hx : Rep x a) (hy : Rep y b) (ha : a.natAbs < 2 ^ 53) (hb : b.natAbs < 2 ^ 53) (hab : (a * b).natAbs < 2 ^ 53) :
    ∃ r, floatBits .mul .f64 x y = some r ∧ Rep r (a * b) := by
  obtain ⟨s, k, e1, h1⟩ := hx.read ha
  obtain ⟨t, j, e2, h2⟩ := hy.read hb
  have h3 : a * b ≠ 0 → (s ^^ t) = decide (a * b < 0) := fun hne => by
    have ha0 : a ≠ 0 := fun h => hne (by rw [h, Int.zero_mul])
    have hb0 : b ≠ 0 := fun h => hne (by rw [h, Int.mul_zero])
    rw [h1 ha0, h2 hb0]
    by_cases p : a < 0 <;> by_cases q : b < 0
    · have := Int.mul_pos_of_neg_of_neg p q
      simp [p, q]; omega
    · have := Int.mul_neg_of_neg_of_pos p (by omega : 0 < b)
      simp [p, q]; omega
    · have := Int.mul_neg_of_pos_of_neg (by omega : 0 < a) q
      simp [p, q]; omega
    · have := Int.mul_pos (by omega : 0 < a) (by omega : 0 < b)
      simp [p, q]; omega
  have h4 := rep_nearest (s ^^ t) (a * b) (k + j) hab h3
  refine ⟨_, ?_, h4⟩
  show Ieee.double.mul x y = _
  unfold Ieee.Format.mul
  rw [e1, e2]
  simp only [Ieee.Datum.product, Option.map_some, Ieee.Format.write]
  congr 2
  · rw [Int.natAbs_mul, Nat.pow_add]
    simp only [Nat.mul_assoc, Nat.mul_left_comm]
  · omega

theorem signed_scale (s : Bool) (a : Int) (k up : Nat) (h : a ≠ 0 → s = decide (a < 0)) : Ieee.signed s (a.natAbs * 2 ^ k) up = a * 2 ^ (k + up) := by
  have e : ((a.natAbs * 2 ^ k) <<< up : Nat) = a.natAbs * 2 ^ (k + up) := by rw [Nat.shiftLeft_eq, Nat.mul_assoc, ← Nat.pow_add]
  have e2 : (((a.natAbs * 2 ^ (k + up) : Nat)) : Int) = (a.natAbs : Int) * 2 ^ (k + up) := by rw [Int.natCast_mul, Int.natCast_pow]; rfl
  unfold Ieee.signed
  rw [e, e2]
  by_cases h0 : a = 0
  · subst h0; cases s <;> simp
  · rw [h h0]
    by_cases hneg : a < 0
    · rw [if_pos (by simpa using hneg)]
      have : (a.natAbs : Int) = -a := by omega
      rw [this, Int.neg_mul, Int.neg_neg]
    · rw [if_neg (by simpa using hneg)]
      have : (a.natAbs : Int) = a := by omega
      rw [this]

theorem sum_exact {s t : Bool} {a b : Int} {k j : Nat} (h1 : a ≠ 0 → s = decide (a < 0)) (h2 : b ≠ 0 → t = decide (b < 0)) (hab : (a + b).natAbs < 2 ^ 53) :
    ∃ r, ((Ieee.Datum.number s (a.natAbs * 2 ^ k) (-(k : Int))).sum (.number t (b.natAbs * 2 ^ j) (-(j : Int)))).map Ieee.double.write = some r ∧ Rep r (a + b) := by
  have hmin : min (-(k : Int)) (-(j : Int)) = -((max k j : Nat) : Int) := by omega
  have e1 : (-(k : Int) - min (-(k : Int)) (-(j : Int))).toNat = max k j - k := by omega
  have e2 : (-(j : Int) - min (-(k : Int)) (-(j : Int))).toNat = max k j - j := by omega
  have htot : Ieee.signed s (a.natAbs * 2 ^ k) (max k j - k) + Ieee.signed t (b.natAbs * 2 ^ j) (max k j - j) = (a + b) * 2 ^ (max k j) := by
    rw [signed_scale s a _ _ h1, signed_scale t b _ _ h2, show k + (max k j - k) = max k j by omega, show j + (max k j - j) = max k j by omega, Int.add_mul]
  simp only [Ieee.Datum.sum, e1, e2, htot]
  rw [hmin]
  have hp : (0 : Int) < 2 ^ (max k j) := by
    have := Nat.two_pow_pos (max k j)
    have e : ((2 ^ (max k j) : Nat) : Int) = 2 ^ (max k j) := by rw [Int.natCast_pow]; rfl
    omega
  have hn : ((a + b) * 2 ^ (max k j)).natAbs = (a + b).natAbs * 2 ^ (max k j) := by
    rw [Int.natAbs_mul, Int.natAbs_pow]; rfl
  rw [hn]
  refine ⟨_, rfl, ?_⟩
  refine rep_nearest _ (a + b) (max k j) hab fun hne => ?_
  rw [if_neg (Int.mul_ne_zero hne (by omega))]
  by_cases hneg : a + b < 0
  · have := Int.mul_neg_of_neg_of_pos hneg hp
    simp [hneg, this]
  · have := Int.mul_pos (by omega : 0 < a + b) hp
    simp [hneg]; omega

theorem rep_add {x y : Nat} {a b : Int} (hx : Rep x a) (hy : Rep y b) (ha : a.natAbs < 2 ^ 53) (hb : b.natAbs < 2 ^ 53) (hab : (a + b).natAbs < 2 ^ 53) :
    ∃ r, floatBits .add .f64 x y = some r ∧ Rep r (a + b) := by
  obtain ⟨s, k, e1, h1⟩ := hx.read ha
  obtain ⟨t, j, e2, h2⟩ := hy.read hb
  obtain ⟨r, hr, h⟩ := sum_exact h1 h2 hab (k := k) (j := j)
  refine ⟨r, ?_, h⟩
  show Ieee.double.add x y = _
  unfold Ieee.Format.add
  rw [e1, e2]
  exact hr

theorem rep_sub {x y : Nat} {a b : Int} (hx : Rep x a) (hy : Rep y b) (ha : a.natAbs < 2 ^ 53) (hb : b.natAbs < 2 ^ 53) (hab : (a - b).natAbs < 2 ^ 53) :
    ∃ r, floatBits .sub .f64 x y = some r ∧ Rep r (a - b) := by
  obtain ⟨s, k, e1, h1⟩ := hx.read ha
  obtain ⟨t, j, e2, h2⟩ := hy.read hb
  have h2' : (-b) ≠ 0 → (!t) = decide (-b < 0) := fun hne => by
    rw [h2 (by omega)]
    by_cases q : b < 0
    · rw [decide_eq_true q, decide_eq_false (by omega : ¬ -b < 0)]; rfl
    · rw [decide_eq_false q, decide_eq_true (by omega : -b < 0)]; rfl
  obtain ⟨r, hr, h⟩ := sum_exact h1 h2' (by rwa [← Int.sub_eq_add_neg]) (k := k) (j := j)
  rw [← Int.sub_eq_add_neg] at h
  refine ⟨r, ?_, h⟩
  show Ieee.double.sub x y = _
  unfold Ieee.Format.sub
  rw [e1, e2]
  rw [Int.natAbs_neg] at hr
  exact hr

theorem cut_zero' (s : Bool) (n d : Nat) (hd : d ≤ (n * 2 ^ d).log2 + 2) : Ieee.Toward.zero.cut s (n * 2 ^ d) d = n := by
  unfold Ieee.Toward.cut
  have hp : 0 < 2 ^ d := Nat.two_pow_pos d
  simp only [Nat.min_eq_left hd, Nat.one_shiftLeft, Nat.mul_div_cancel _ hp, Nat.mul_mod_left]
  simp

theorem rep_toInt {x : Nat} {n : Int} (h : Rep x n) (hn : n.natAbs < 2 ^ 53) : floatToIntVal .f64 x .i64 = some n := by
  obtain ⟨s, k, e1, h1⟩ := h.read hn
  have hk : (FloatKind.f64.decode x).toInt .zero = some n := by
    show (Ieee.double.read x).toInt .zero = some n
    rw [e1]
    unfold Ieee.Datum.toInt Ieee.Datum.integral
    have z1 : (-(k : Int)).toNat = 0 := by omega
    have z2 : (- -(k : Int)).toNat = k := by omega
    simp only [z1, z2, Nat.shiftLeft_zero]
    have hcut : Ieee.Toward.zero.cut s (n.natAbs * 2 ^ k) k = n.natAbs := by
      by_cases h0 : n = 0
      · subst h0
        rw [Int.natAbs_zero, Nat.zero_mul]
        unfold Ieee.Toward.cut
        simp
      · exact cut_zero' s _ k (by rw [log2_scale (by omega)]; omega)
    rw [hcut]
    have := signed_scale s n 0 0 h1
    rw [Nat.pow_zero, Nat.mul_one] at this
    rw [this]
    simp
  unfold floatToIntVal
  rw [hk]
  have hb : n.natAbs < 9007199254740992 := hn
  have : IntKind.i64.min ≤ n ∧ n ≤ IntKind.i64.max := by
    simp [IntKind.min, IntKind.max, IntKind.signed, IntKind.bits]
    omega
  exact if_pos this

theorem rep_cmul {x y u v : Nat} {a b c d : Int} (hx : Rep x a) (hy : Rep y b) (hu : Rep u c) (hv : Rep v d) (ha : a.natAbs ≤ 1000000000) (hb : b.natAbs ≤ 1000000000) (hc : c.natAbs ≤ 1) (hd : d.natAbs ≤ 1) :
    ∃ r i, cMulBits x y u v = some (r, i) ∧ Rep r (a * c - b * d) := by
  have p53 : (2 : Nat) ^ 53 = 9007199254740992 := by decide
  have hm : ∀ p q : Int, p.natAbs ≤ 1000000000 → q.natAbs ≤ 1 → (p * q).natAbs ≤ 1000000000 := fun p q hp hq => by
    rw [Int.natAbs_mul]
    calc p.natAbs * q.natAbs ≤ p.natAbs * 1 := Nat.mul_le_mul_left _ hq
      _ ≤ 1000000000 := by omega
  have m1 := hm a c ha hc
  have m2 := hm b d hb hd
  have m3 := hm a d ha hd
  have m4 := hm b c hb hc
  obtain ⟨ac, e1, r1⟩ := rep_mul hx hu (by omega) (by omega) (by omega)
  obtain ⟨bd, e2, r2⟩ := rep_mul hy hv (by omega) (by omega) (by omega)
  obtain ⟨re, e3, r3⟩ := rep_sub r1 r2 (by omega) (by omega) (by omega)
  obtain ⟨ad, e4, r4⟩ := rep_mul hx hv (by omega) (by omega) (by omega)
  obtain ⟨bc, e5, r5⟩ := rep_mul hy hu (by omega) (by omega) (by omega)
  obtain ⟨im, e6, r6⟩ := rep_add r4 r5 (by omega) (by omega) (by omega)
  exact ⟨re, im, by simp [cMulBits, e1, e2, e3, e4, e5, e6], r3⟩

theorem rep_one : Rep 4607182418800017408 1 := ⟨false, by decide, fun _ => rfl⟩
theorem rep_neg : Rep 13830554455654793216 (-1) := ⟨true, by decide, fun _ => rfl⟩
theorem rep_zero : Rep 0 0 := ⟨false, by decide, fun h => absurd rfl h⟩

end Go.Proofs.Ytgjhikjnlcbmkaa

/- Quarters and waves of a roll. -/
namespace Go.Proofs.Ytgjhikjnlcbmkaa
open Go.RowKit
set_option maxHeartbeats 1000000
set_option maxRecDepth 20000

def qtr (p o k : Int) : Int := (k + o) % p * 4 / p

def Drum (p o : Int) : Prop := 4 ≤ p ∧ p ≤ 64 ∧ 0 ≤ o ∧ o ≤ p - 1

theorem qtr_lt {p o k : Int} (h : 4 ≤ p) : 0 ≤ qtr p o k ∧ qtr p o k < 4 := by
  have h1 := Int.emod_nonneg (k + o) (show p ≠ 0 by omega)
  have h2 := Int.emod_lt_of_pos (k + o) (show 0 < p by omega)
  unfold qtr
  constructor
  · exact Int.ediv_nonneg (by omega) (by omega)
  · exact Int.ediv_lt_of_lt_mul (by omega) (by omega)

theorem quarter_any (nm : ByteArray) (p o k : Int) (w : World) (hd : Drum p o) (hk0 : 0 ≤ k) (hk1 : k ≤ 1000000) :
    Calls Try.prog 67 #[.agg #[.string nm, .int .i64 p, .int .i64 o], .int .i64 k] w fun e w' => e = .returned (.int .i64 (qtr p o k)) ∧ Below w.heap.size w w' := by
  obtain ⟨h1, h2, h3, h4⟩ := hd
  have hp0 : p ≠ 0 := by omega
  have h5 := Int.emod_nonneg (k + o) hp0
  have h6 := Int.emod_lt_of_pos (k + o) (show 0 < p by omega)
  go_enter Try.func67, Try.ntmps67
  go_wp2
  go_quiet (fail)
  go_wp2
  go_ret
  exact ⟨rfl, below_drewN ((Below.refl _ _).alloc (Nat.le_refl _) _) _⟩

def waveQ (q re im : Int) : Int := if q = 0 then re else if q = 1 then -im else if q = 2 then -re else im
def wave (p o re im k : Int) : Int := waveQ (qtr p o k) re im

end Go.Proofs.Ytgjhikjnlcbmkaa

/- The waves of roll: complex numbers that stay whole. -/
namespace Go.Proofs.Ytgjhikjnlcbmkaa
open Go.RowKit
set_option maxHeartbeats 1000000
set_option maxRecDepth 20000

theorem run_turn (P : Program) {x y u v : Nat} {a b c d n : Int} (t t1 t2 : TypeId) (hs : (P.underlying t1).isSome = true) (ht : P.underlying t2 = some (.int .i64)) (hx : Rep x a) (hy : Rep y b) (hu : Rep u c) (hv : Rep v d)
    (ha : a.natAbs ≤ 1000000000) (hb : b.natAbs ≤ 1000000000) (hc : c.natAbs ≤ 1) (hd : d.natAbs ≤ 1) (hn : a * c - b * d = n) :
    ∃ r i, (∀ w, (binOp .mul t (.complex .f64 x y) (.complex .f64 u v)).run P w = .ok (.complex .f64 r i) w) ∧ (∀ w, (convert t1 t2 (.float .f64 r)).run P w = .ok (.int .i64 n) w) := by
  obtain ⟨r, i, h1, h2⟩ := rep_cmul hx hy hu hv ha hb hc hd
  have hbig : (a * c - b * d).natAbs < 2 ^ 53 := by
    have p53 : (2 : Nat) ^ 53 = 9007199254740992 := by decide
    have hm : ∀ p q : Int, p.natAbs ≤ 1000000000 → q.natAbs ≤ 1 → (p * q).natAbs ≤ 1000000000 := fun p q hp hq => by
      rw [Int.natAbs_mul]
      calc p.natAbs * q.natAbs ≤ p.natAbs * 1 := Nat.mul_le_mul_left _ hq
        _ ≤ 1000000000 := by omega
    have := hm a c ha hc
    have := hm b d hb hd
    omega
  subst hn
  exact ⟨r, i, fun w => run_complex_mul w t x y u v r i h1, fun w => run_convert_float_int w t1 t2 .f64 .i64 r _ hs ht (rep_toInt h2 hbig)⟩

theorem wave_any (nm : ByteArray) (p o re im k : Int) (x y : Nat) (w : World) (hd : Drum p o) (hk0 : 0 ≤ k) (hk1 : k ≤ 1000000) (hx : Rep x re) (hy : Rep y im) (h1 : re.natAbs ≤ 1000000000) (h2 : im.natAbs ≤ 1000000000) :
    Calls Try.prog 32 #[.agg #[.string nm, .int .i64 p, .int .i64 o], .complex .f64 x y, .int .i64 k] w fun e w' => e = .returned (.int .i64 (wave p o re im k)) ∧ Below w.heap.size w w' := by
  obtain ⟨q0, q1⟩ := qtr_lt (p := p) (o := o) (k := k) hd.1
  have hst : ∀ (w : World) (a : Addr) (x y : Nat) (m : Mode), (store a (.complex .f64 x y) m).run Try.prog w = stored Try.prog w a (.complex .f64 x y) m := fun w a x y m => run_store _ w a _ m rfl
  go_enter Try.func32, Try.ntmps32
  go_wp2_with fail
  refine (quarter_any nm p o k _ hd hk0 hk1).mono ?_
  rintro e w' ⟨rfl, hb⟩
  have hw : wave p o re im k = waveQ (qtr p o k) re im := rfl
  have HW := Lib.hid hw
  clear hw
  generalize qtr p o k = q at *
  obtain ⟨hc, hf⟩ := bcell hb
  have hB := (((Below.refl w.heap.size w).alloc (Nat.le_refl _) (.cells #[.string nm, .int .i64 p, .int .i64 o] 69)).alloc (by simp) (.cells #[.complex .f64 4607182418800017408 0, .complex .f64 0 4607182418800017408, .complex .f64 13830554455654793216 0, .complex .f64 0 13830554455654793216] 130)).trans (hb.mono (by simp; omega))
  have hcase : q = 0 ∨ q = 1 ∨ q = 2 ∨ q = 3 := by omega
  rcases hcase with rfl | rfl | rfl | rfl
  · obtain ⟨r, i, m1, m2⟩ := run_turn Try.prog 85 131 3 (by rw [Try.underlying131]; rfl) Try.underlying3 hx hy rep_one rep_zero h1 h2 (by decide) (by decide) (show re * 1 - im * 0 = re by omega)
    go_wp2
    go_ret
    exact ⟨ret_int (by rw [HW.out]; rfl), hB⟩
  · obtain ⟨r, i, m1, m2⟩ := run_turn Try.prog 85 131 3 (by rw [Try.underlying131]; rfl) Try.underlying3 hx hy rep_zero rep_one h1 h2 (by decide) (by decide) (show re * 0 - im * 1 = -im by omega)
    go_wp2
    go_ret
    exact ⟨ret_int (by rw [HW.out]; rfl), hB⟩
  · obtain ⟨r, i, m1, m2⟩ := run_turn Try.prog 85 131 3 (by rw [Try.underlying131]; rfl) Try.underlying3 hx hy rep_neg rep_zero h1 h2 (by decide) (by decide) (show re * -1 - im * 0 = -re by omega)
    go_wp2
    go_ret
    exact ⟨ret_int (by rw [HW.out]; rfl), hB⟩
  · obtain ⟨r, i, m1, m2⟩ := run_turn Try.prog 85 131 3 (by rw [Try.underlying131]; rfl) Try.underlying3 hx hy rep_zero rep_neg h1 h2 (by decide) (by decide) (show re * 0 - im * -1 = im by omega)
    go_wp2
    go_ret
    exact ⟨ret_int (by rw [HW.out]; rfl), hB⟩

theorem numberOf_any (re im : Int) (w : World) :
    Calls Try.prog 33 #[.agg #[.int .i64 re, .int .i64 im]] w fun e w' => e = .returned (.complex .f64 (floatOfInt .f64 re) (floatOfInt .f64 im)) ∧ Below w.heap.size w w' := by
  go_enter Try.func33, Try.ntmps33
  go_wp2
  go_ret
  exact ⟨rfl, (Below.refl _ _).alloc (Nat.le_refl _) _⟩

def ampErr (re im : Int) : Int := bif inR re (-1000000) 1000000 && inR im (-1000000) 1000000 then 0 else 2

end Go.Proofs.Ytgjhikjnlcbmkaa
