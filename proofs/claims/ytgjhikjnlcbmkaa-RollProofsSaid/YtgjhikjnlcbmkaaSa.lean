/- Rows of ratios in a slice of slices of the call's own: their links, and two links exchanged. Nothing of the program but types. -/
import Derived.Test.YtgjhikjnlcbmkaaVi
import Derived.Test.YtgjhikjnlcbmkaaUq
import Derived.Test.YtgjhikjnlcbmkaaGq
set_option linter.unusedVariables false
set_option linter.unusedSimpArgs false
namespace Go.Proofs.Ytgjhikjnlcbmkaa
open Go.RowKit
set_option maxRecDepth 20000

def AS.ren (s : AS) (d L : Nat) (p : Nat × Nat) (blk : Blk) : AS := ⟨upd (fun i => ((s.fr i).kill d).kill L) L (.d (.val (encP p))), upd (upd s.mem d none) L (some blk)⟩
theorem R.link_eq {c : Ctx} {s : AS} {φ : Nat → Nat × Nat} {a : Act} {w : World} (h : R c s φ a w) {L b cap sz : Nat} (hL : s.fr L = linkP b cap sz) (hPN : PN ≤ L) : φ L = (b, cap * sz) := by
  have h1 := h.fr L (fun e => by have h3 : 3000000 ≤ L := hPN; have h4 : L = 999999 := e; omega)
  rw [hL, slotAt_pn hPN] at h1
  have h1 : encP (φ L) = encP (b, cap * sz) := (rep_val (ok := okOf c φ s) (w := w)).1 h1
  unfold encP at h1
  injection h1 with e1 _ e2
  injection e1 with e1
  injection e1 with e1
  exact Prod.ext e1 e2
theorem turns_swap {c : Fam} {s : AS} {k1 k2 : Blk} (L1 L2 L3 : Nat) {b1 c1 b2 c2 sz : Nat} (hm1 : s.mem L1 = some k1) (hm2 : s.mem L2 = some k2) (hm3 : s.mem L3 = none) (h1 : s.fr L1 = linkP b1 c1 sz) (h2 : s.fr L2 = linkP b2 c2 sz) (hL : (Nat.ble PN L1 && (Nat.ble PN L2 && (Nat.ble PN L3 && !Nat.beq L1 L2))) = true) :
    TurnsE c s fun (_ : Unit) => ((s.ren L1 L3 (b1, c1 * sz) k1).ren L2 L1 (b2, c2 * sz) k2).ren L3 L2 (b1, c1 * sz) k1 := fun φ a w ⟨c', hG, hR⟩ => by
  simp only [Bool.and_eq_true, Nat.ble_eq, Bool.not_eq_true'] at hL
  obtain ⟨p1, p2, p3, hne⟩ := hL
  have hne : L1 ≠ L2 := Nat.ne_of_beq_eq_false hne
  have n13 : L1 ≠ L3 := fun e => by rw [e, hm3] at hm1; cases hm1
  have n23 : L2 ≠ L3 := fun e => by rw [e, hm3] at hm2; cases hm2
  have e1 := hR.link_eq h1 p1
  have e2 := hR.link_eq h2 p2
  have R1 : R c' (s.ren L1 L3 (φ L1) k1) (upd φ L3 (φ L1)) a w := hR.rename hm1 hm3 p3
  have R2 : R c' ((s.ren L1 L3 (φ L1) k1).ren L2 L1 (upd φ L3 (φ L1) L2) k2) (upd (upd φ L3 (φ L1)) L1 (upd φ L3 (φ L1) L2)) a w := R1.rename (d := L2) (L := L1) (blk := k2) (by
    show upd (upd s.mem L1 none) L3 (some k1) L2 = some k2
    rw [upd_ne _ _ n23, upd_ne _ _ (Ne.symm hne), hm2]) (by
    show upd (upd s.mem L1 none) L3 (some k1) L1 = none
    rw [upd_ne _ _ n13, upd_same]) p1
  have R3 := R2.rename (d := L3) (L := L2) (blk := k1) (by
    show upd (upd (upd (upd s.mem L1 none) L3 (some k1)) L2 none) L1 (some k2) L3 = some k1
    rw [upd_ne _ _ (Ne.symm n13), upd_ne _ _ (Ne.symm n23), upd_same]) (by
    show upd (upd (upd (upd s.mem L1 none) L3 (some k1)) L2 none) L1 (some k2) L2 = none
    rw [upd_ne _ _ (Ne.symm hne), upd_same]) p2
  have e3 : upd φ L3 (φ L1) L2 = (b2, c2 * sz) := by rw [upd_ne _ _ n23, e2]
  have e4 : upd (upd φ L3 (φ L1)) L1 (upd φ L3 (φ L1) L2) L3 = (b1, c1 * sz) := by rw [upd_ne _ _ (Ne.symm n13), upd_same, e1]
  rw [e3] at R3
  rw [e1] at R3
  have e5 : upd (upd φ L3 (b1, c1 * sz)) L1 (b2, c2 * sz) L3 = (b1, c1 * sz) := by rw [upd_ne _ _ (Ne.symm n13), upd_same]
  rw [e5] at R3
  exact ⟨(), _, c', hG, R3⟩

/-! Five ratios in a row. -/
def rwQ (f : Nat → Rat) : List Rat := [f 0, f 1, f 2, f 3, f 4]
theorem rwQ_get (f : Nat → Rat) {k : Nat} (h : k < 5) : (rwQ f).getD k 0 = f k := by
  have h : k = 0 ∨ k = 1 ∨ k = 2 ∨ k = 3 ∨ k = 4 := by omega
  rcases h with rfl | rfl | rfl | rfl | rfl <;> rfl
theorem rwQ_congr {f g : Nat → Rat} (h : ∀ k, k < 5 → f k = g k) : rwQ f = rwQ g := by
  unfold rwQ
  rw [h 0 (by omega), h 1 (by omega), h 2 (by omega), h 3 (by omega), h 4 (by omega)]
theorem rwQ_set (f : Nat → Rat) {k : Nat} (h : k < 5) (z : Rat) : (rwQ f).set k z = rwQ fun j => if j = k then z else f j := by
  have h : k = 0 ∨ k = 1 ∨ k = 2 ∨ k = 3 ∨ k = 4 := by omega
  rcases h with rfl | rfl | rfl | rfl | rfl <;> rfl
abbrev rcS (l : List Rat) : List DV := (l.map ratC).flatten
theorem ratC_l (r : Rat) : (ratC r).length = 4 := rfl
abbrev rowV (f : Nat → Rat) : DV := .slice 5 (rcS (rwQ f))
abbrev rowsV (m : Mq) : DV := .slice 4 [rowV (m 0), rowV (m 1), rowV (m 2), rowV (m 3)]
abbrev LkT := Nat → Nat × Nat
def LkA (lk : LkT) : Prop := ∀ i, 5 ≤ (lk i).2 ∧ (lk i).2 ≤ maxLen
def mS (lk : LkT) : List (Nat × AV) := [(PN, linkP (lk 0).1 (lk 0).2 4), (PN + 1, linkP (lk 1).1 (lk 1).2 4), (PN + 2, linkP (lk 2).1 (lk 2).2 4), (PN + 3, linkP (lk 3).1 (lk 3).2 4)]
def mO (lk : LkT) : List DV := [linkC (lk 0).1 (lk 0).2 5, linkC (lk 1).1 (lk 1).2 5, linkC (lk 2).1 (lk 2).2 5, linkC (lk 3).1 (lk 3).2 5]
def mM (lk : LkT) (m : Mq) : List (Nat × Blk) := [(29, ⟨90, mO lk⟩), (PN, ⟨95, rcS (rwQ (m 0))⟩), (PN + 1, ⟨95, rcS (rwQ (m 1))⟩), (PN + 2, ⟨95, rcS (rwQ (m 2))⟩), (PN + 3, ⟨95, rcS (rwQ (m 3))⟩)]
def swL (lk : LkT) (a b : Nat) : LkT := fun i => bif Nat.beq i a then lk b else bif Nat.beq i b then lk a else lk i
theorem LkA.swap {lk : LkT} (h : LkA lk) (a b : Nat) : LkA (swL lk a b) := fun i => by
  unfold swL
  cases Nat.beq i a
  · cases Nat.beq i b
    · exact h i
    · exact h a
  · exact h b
def RatM (k : Nat) (m : Mq) : Prop := ∀ i j, i < 4 → j < 5 → RatS k (m i j)
def dropSeq : Nat → Code → Code
  | 0, x => x
  | n + 1, .seq _ y => dropSeq n y
  | _, x => x
def sqH : Code → Code
  | .seq x _ => x
  | x => x
def inB : Code → Code
  | .block _ x => x
  | x => x
def inL : Code → Code
  | .loop x => x
  | x => x
def colOf (b : Code) : Code := sqH (dropSeq 1 (inL (inB (dropSeq 1 (sqH (dropSeq 4 b))))))
def pivOf (b : Code) : Code := sqH (dropSeq 1 (inB (colOf b)))
def swpOf (b : Code) : Code := sqH (dropSeq 3 (inB (colOf b)))
def elmOf (b : Code) : Code := dropSeq 4 (inB (colOf b))
theorem sgn_A (q : Rat) : ∃ sg : Int, (sg = 0 ↔ q = 0) ∧ AC Try.prog 70 [ratV q] (I sg) :=
  ⟨q.num.sign, by rw [Int.sign_eq_zero_iff_zero]; exact Rat.num_eq_zero, ratioSign_A q⟩

end Go.Proofs.Ytgjhikjnlcbmkaa
