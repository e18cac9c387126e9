/- A slice that grows in a struct's cell: nil, then a link. Nothing of the program. -/
import Derived.Test.YtiabcffcbhlbiaaM7
import Derived.Test.YtiabcffcbhlbiaaMj
set_option linter.unusedVariables false
set_option linter.unusedSimpArgs false
namespace Go.Proofs.Ytiabcffcbhlbiaa
open Go.RowKit

/-- A nil slice in a cell is an empty one. -/
theorem turns_nilC {c : Fam} {s : AS} (nm off : Nat) {ty : TypeId} {cells : List DV} (hn : s.mem nm = some ⟨ty, cells⟩) (hc : cells[off]? = some nilV) :
    TurnsE c s fun (_ : Unit) => s.setBlk nm ⟨ty, cells.set off (.slice 0 [])⟩ := fun φ a w ⟨c', hG, hR⟩ =>
  ⟨(), φ, c', hG, hR.recell hn hc fun _ hv => rep_nilS hv⟩
def lkC (b cap : Nat) : Nat → DV
  | 0 => nilV
  | k + 1 => linkC b cap (k + 1)
def lkF (L b cap sz : Nat) : Nat → List (Nat × AV)
  | 0 => []
  | _ + 1 => [(L, linkP b cap sz)]
def lkM (L : Nat) (ty : TypeId) (cells : List DV) : Nat → List (Nat × Blk)
  | 0 => []
  | _ + 1 => [(L, ⟨ty, cells⟩)]
/-- What is known of a link. -/
def LkJ (b cap k : Nat) : Prop := k = 0 ∨ (k ≤ cap ∧ cap ≤ maxLen)
theorem LkJ.of {k : Nat} (x : LkOk k) : LkJ x.1.1 x.1.2 k := .inr x.2


/-! Slices of any items that a loop makes. -/
def ownZ (nm sz : Nat) : Nat → AV
  | 0 => .d nilV
  | k + 1 => .lsl nm 0 (k + 1) sz
section
variable {P : Program} {c : Fam} {Q : Exit → AS → Prop} {s : AS}
theorem awp_ownZ {code : Code} (i nm sz : Nat) {n : Nat} {t : TypeId} (cells : List DV) (hl : cells.length = n * sz) (hi : s.fr i = ownZ nm sz n) (hm : ∀ k, n = k + 1 → s.mem nm = some ⟨t, cells⟩)
    (h : AWp P c code Q ⟨upd (fun j => (s.fr j).kill nm) i (.d (.slice n cells)), upd s.mem nm none⟩) : AWp P c code Q s := by
  cases n with
  | zero =>
    have hc : cells = [] := List.length_eq_zero_iff.1 (by omega)
    subst hc
    refine awp_weaken (kill_le s nm) ?_
    refine awp_nil i ?_ h
    show (s.fr i).kill nm = _
    rw [hi]; rfl
  | succ k =>
    have hm := hm k rfl
    refine awp_freeze nm hm (awp_weaken (s' := ⟨upd (fun j => (s.fr j).kill nm) i (.d (.slice (k + 1) cells)), upd s.mem nm none⟩) ⟨fun j => ?_, fun n blk hb => hb⟩ h)
    show upd (fun j => (s.fr j).kill nm) i (.d (.slice (k + 1) cells)) j = .d .any ∨ upd (fun j => (s.fr j).kill nm) i (.d (.slice (k + 1) cells)) j = (s.fr j).frz nm cells
    by_cases e : j = i
    · subst e
      refine .inr ?_
      rw [upd_same, hi]
      show _ = AV.frz nm cells (.lsl nm 0 (k + 1) sz)
      simp only [AV.frz, BEq.rfl, cond_true]
      rw [List.drop_zero, List.take_of_length_le (by omega)]
    · rw [upd_ne _ _ e]
      cases s.fr j with
      | d x => exact .inr rfl
      | ptr n off => cases hh : n == nm <;> simp [AV.kill, AV.frz, hh]
      | lsl n off len sz => cases hh : n == nm <;> simp [AV.kill, AV.frz, hh]
end

end Go.Proofs.Ytiabcffcbhlbiaa
