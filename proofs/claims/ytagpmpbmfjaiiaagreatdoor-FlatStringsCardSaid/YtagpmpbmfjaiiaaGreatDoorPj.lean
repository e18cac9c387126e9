/- Operations on bits. -/
import Derived.Test.YtagpmpbmfjaiiaaGreatDoorPb
set_option linter.unusedVariables false
set_option linter.unusedSimpArgs false
namespace Go.Proofs.YtagpmpbmfjaiiaaGreatDoor
open Go.RowKit
set_option maxRecDepth 20000

theorem bv_nat {a : Nat} (h : a < 4611686018427387904) : (BitVec.ofInt 64 (a : Int)).toNat = a := by
  rw [BitVec.ofInt_natCast, BitVec.toNat_ofNat]
  exact Nat.mod_eq_of_lt (by omega)
theorem wrap_nat {a : Nat} (h : a < 4611686018427387904) : IntKind.i64.wrap (a : Int) = a := wr (by omega)
section
variable {P : Program} {s : AS} {dst : Option Tmp} {ty : TypeId} {ps : String} {af : Array Edge} {t t' : TypeId} {x y : Operand} {a b : Int}
theorem o_shl {n : Nat} (hx : s.ev x = .d (.val (.int .i64 a))) (hy : s.ev y = .d (.val (.int .i64 (n : Int)))) (hn : n < 64) {r : Int} (hr : IntKind.i64.wrap (a * 2 ^ n) = r) (gd : Option (Nat × Bool)) : Does P ⟨dst, .binOp .shl t x y t', ty, ps, af, gd⟩ s [] (.put (.d (.val (.int .i64 r)))) :=
  does_bin hx hy (bin_run fun w => by
    subst hr
    have h1 : ¬ ((n : Int) < 0) := by omega
    have h2 : min n IntKind.i64.bits = n := Nat.min_eq_left (by show n ≤ 64; omega)
    simp only [binOp, Op.shift, h1, if_false, Int.toNat_natCast, h2, Sem.run_pure])
theorem o_shr {n : Nat} (hx : s.ev x = .d (.val (.int .i64 a))) (hy : s.ev y = .d (.val (.int .i64 (n : Int)))) (hn : n < 64) {r : Int} (hr : a.fdiv (2 ^ n) = r) (gd : Option (Nat × Bool)) : Does P ⟨dst, .binOp .shr t x y t', ty, ps, af, gd⟩ s [] (.put (.d (.val (.int .i64 r)))) :=
  does_bin hx hy (bin_run fun w => by
    subst hr
    have h1 : ¬ ((n : Int) < 0) := by omega
    have h2 : min n IntKind.i64.bits = n := Nat.min_eq_left (by show n ≤ 64; omega)
    simp only [binOp, Op.shift, h1, if_false, Int.toNat_natCast, h2, Sem.run_pure])
theorem o_orN {a b : Nat} (hx : s.ev x = .d (.val (.int .i64 (a : Int)))) (hy : s.ev y = .d (.val (.int .i64 (b : Int)))) (ha : a < 4611686018427387904) (hb : b < 4611686018427387904) (gd : Option (Nat × Bool)) : Does P ⟨dst, .binOp .or t x y t', ty, ps, af, gd⟩ s [] (.put (.d (.val (.int .i64 ((a ||| b : Nat) : Int))))) :=
  does_bin hx hy (bin_run fun w => by
    have h1 : (BitVec.ofInt 64 (a : Int) ||| BitVec.ofInt 64 (b : Int)).toNat = a ||| b := by rw [BitVec.toNat_or, bv_nat ha, bv_nat hb]
    have h2 : a ||| b < 4611686018427387904 := Nat.or_lt_two_pow (n := 62) ha hb
    show (Op.intBits .or .i64 a b).run P w = _
    simp only [Op.intBits, Sem.run_pure]
    show Result.ok (Value.int .i64 (IntKind.i64.wrap ((BitVec.ofInt 64 (a : Int) ||| BitVec.ofInt 64 (b : Int)).toNat : Int))) w = _
    rw [h1, wrap_nat h2])
theorem o_andN {a b : Nat} (hx : s.ev x = .d (.val (.int .i64 (a : Int)))) (hy : s.ev y = .d (.val (.int .i64 (b : Int)))) (ha : a < 4611686018427387904) (hb : b < 4611686018427387904) (gd : Option (Nat × Bool)) : Does P ⟨dst, .binOp .and t x y t', ty, ps, af, gd⟩ s [] (.put (.d (.val (.int .i64 ((a &&& b : Nat) : Int))))) :=
  does_bin hx hy (bin_run fun w => by
    have h1 : (BitVec.ofInt 64 (a : Int) &&& BitVec.ofInt 64 (b : Int)).toNat = a &&& b := by rw [BitVec.toNat_and, bv_nat ha, bv_nat hb]
    have h2 : a &&& b < 4611686018427387904 := Nat.lt_of_le_of_lt Nat.and_le_left ha
    show (Op.intBits .and .i64 a b).run P w = _
    simp only [Op.intBits, Sem.run_pure]
    show Result.ok (Value.int .i64 (IntKind.i64.wrap ((BitVec.ofInt 64 (a : Int) &&& BitVec.ofInt 64 (b : Int)).toNat : Int))) w = _
    rw [h1, wrap_nat h2])
/-- a without the bits of b. -/
def bitOff (a b : Nat) : Nat := (BitVec.ofNat 64 a &&& ~~~BitVec.ofNat 64 b).toNat
theorem bitOff_le {a b : Nat} (ha : a < 4611686018427387904) : bitOff a b ≤ a := by
  unfold bitOff
  rw [BitVec.toNat_and, BitVec.toNat_ofNat, Nat.mod_eq_of_lt (show a < 2 ^ 64 by omega)]
  exact Nat.and_le_left
theorem o_andNotN {a b : Nat} (hx : s.ev x = .d (.val (.int .i64 (a : Int)))) (hy : s.ev y = .d (.val (.int .i64 (b : Int)))) (ha : a < 4611686018427387904) (gd : Option (Nat × Bool)) : Does P ⟨dst, .binOp .andNot t x y t', ty, ps, af, gd⟩ s [] (.put (.d (.val (.int .i64 (bitOff a b : Nat))))) :=
  does_bin hx hy (bin_run fun w => by
    have h1 : (BitVec.ofInt 64 (a : Int) &&& ~~~BitVec.ofInt 64 (b : Int)).toNat = bitOff a b := by rw [BitVec.ofInt_natCast, BitVec.ofInt_natCast]; rfl
    have h2 : bitOff a b < 4611686018427387904 := Nat.lt_of_le_of_lt (bitOff_le ha) ha
    show (Op.intBits .andNot .i64 a b).run P w = _
    simp only [Op.intBits, Sem.run_pure]
    show Result.ok (Value.int .i64 (IntKind.i64.wrap ((BitVec.ofInt 64 (a : Int) &&& ~~~BitVec.ofInt 64 (b : Int)).toNat : Int))) w = _
    rw [h1, wrap_nat h2])
end

end Go.Proofs.YtagpmpbmfjaiiaaGreatDoor
