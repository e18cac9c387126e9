/- Products of 64 bits. -/
import Derived.Test.YtfcfmpdpjmbcnaaGreatDoorUa
set_option linter.unusedVariables false
set_option linter.unusedSimpArgs false
namespace Go.Proofs.YtfcfmpdpjmbcnaaGreatDoor
open Go.RowKit
set_option maxRecDepth 20000
set_option maxHeartbeats 8000000

abbrev U (n : Nat) : DV := .val (.int .u64 (n : Int))
theorem wu {n : Nat} (h : n < 18446744073709551616) : IntKind.u64.wrap (n : Int) = (n : Int) := by
  show (if (false && decide ((n : Int) % (2 ^ 64 : Int) ≥ (2 ^ 63 : Int))) = true then (n : Int) % (2 ^ 64 : Int) - (2 ^ 64 : Int) else (n : Int) % (2 ^ 64 : Int)) = (n : Int)
  rw [Bool.false_and, if_neg (by decide)]
  have : (2 ^ 64 : Int) = 18446744073709551616 := by decide
  rw [this]
  omega
theorem wuM (n : Nat) : IntKind.u64.wrap (n : Int) = ((n % 18446744073709551616 : Nat) : Int) := by
  show (if (false && decide ((n : Int) % (2 ^ 64 : Int) ≥ (2 ^ 63 : Int))) = true then (n : Int) % (2 ^ 64 : Int) - (2 ^ 64 : Int) else (n : Int) % (2 ^ 64 : Int)) = _
  rw [Bool.false_and, if_neg (by decide)]
  have : (2 ^ 64 : Int) = 18446744073709551616 := by decide
  rw [this]
  omega
section
variable {P : Program} {s : AS} {dst : Option Tmp} {ty : TypeId} {ps : String} {af : Array Edge} {t t' : TypeId} {x y : Operand} {a b : Nat}
theorem o_shrU (hx : s.ev x = .d (U a)) (hy : s.ev y = .d (.val (.int .u64 32))) (gd : Option (Nat × Bool)) : Does P ⟨dst, .binOp .shr t x y t', ty, ps, af, gd⟩ s [] (.put (.d (U (a / 4294967296)))) :=
  does_bin hx hy (bin_run fun w => by
    have h3 : ((a : Int).fdiv (2 ^ 32)) = ((a / 4294967296 : Nat) : Int) := by
      rw [Int.fdiv_eq_ediv_of_nonneg _ (by decide)]
      have : (2 ^ 32 : Int) = 4294967296 := by decide
      rw [this]; omega
    have h2 : min (32 : Int).toNat IntKind.u64.bits = 32 := by decide
    have h1 : ¬ ((32 : Int) < 0) := by decide
    simp only [binOp, Op.shift, h1, if_false, h2, Sem.run_pure, h3])
theorem o_andU (hx : s.ev x = .d (U a)) (hy : s.ev y = .d (.val (.int .u64 4294967295))) (ha : a < 18446744073709551616) (gd : Option (Nat × Bool)) : Does P ⟨dst, .binOp .and t x y t', ty, ps, af, gd⟩ s [] (.put (.d (U (a % 4294967296)))) :=
  does_bin hx hy (bin_run fun w => by
    have h1 : (BitVec.ofInt 64 (a : Int) &&& BitVec.ofInt 64 4294967295).toNat = a % 4294967296 := by
      rw [BitVec.toNat_and, BitVec.ofInt_natCast, BitVec.toNat_ofNat, Nat.mod_eq_of_lt (show a < 2 ^ 64 by omega)]
      exact Nat.and_two_pow_sub_one_eq_mod a 32
    show (Op.intBits .and .u64 a 4294967295).run P w = _
    simp only [Op.intBits, Sem.run_pure]
    show Result.ok (Value.int .u64 (IntKind.u64.wrap ((BitVec.ofInt 64 (a : Int) &&& BitVec.ofInt 64 4294967295).toNat : Int))) w = _
    rw [h1, wu (by omega)])
theorem o_mulU (hx : s.ev x = .d (U a)) (hy : s.ev y = .d (U b)) (h : a * b < 18446744073709551616) (gd : Option (Nat × Bool)) : Does P ⟨dst, .binOp .mul t x y t', ty, ps, af, gd⟩ s [] (.put (.d (U (a * b)))) :=
  o_mul hx hy (by rw [← Int.natCast_mul]; exact wu h) gd
theorem o_mulM (hx : s.ev x = .d (U a)) (hy : s.ev y = .d (U b)) (gd : Option (Nat × Bool)) : Does P ⟨dst, .binOp .mul t x y t', ty, ps, af, gd⟩ s [] (.put (.d (U (a * b % 18446744073709551616)))) :=
  o_mul hx hy (by rw [← Int.natCast_mul]; exact wuM _) gd
theorem o_addU (hx : s.ev x = .d (U a)) (hy : s.ev y = .d (U b)) (h : a + b < 18446744073709551616) (gd : Option (Nat × Bool)) : Does P ⟨dst, .binOp .add t x y t', ty, ps, af, gd⟩ s [] (.put (.d (U (a + b)))) :=
  o_add hx hy (by rw [← Int.natCast_add]; exact wu h) gd
end
theorem mul32 {a b : Nat} (ha : a < 4294967296) (hb : b < 4294967296) : a * b ≤ 18446744065119617025 := Nat.le_trans (Nat.mul_le_mul (Nat.le_of_lt_succ ha) (Nat.le_of_lt_succ hb)) (by decide)
theorem mul64_A (a b : Nat) (ha : a < 18446744073709551616) (hb : b < 18446744073709551616) : AC Tryz.prog 119 [U a, U b] (.tuple [U (a * b / 18446744073709551616), U (a * b % 18446744073709551616)]) := by
  have m00 := mul32 (a := a % 4294967296) (b := b % 4294967296) (by omega) (by omega)
  have m10 := mul32 (a := a / 4294967296) (b := b % 4294967296) (by omega) (by omega)
  have m01 := mul32 (a := a % 4294967296) (b := b / 4294967296) (by omega) (by omega)
  have m11 := mul32 (a := a / 4294967296) (b := b / 4294967296) (by omega) (by omega)
  have hab : a * b = (a / 4294967296) * (b / 4294967296) * 18446744073709551616 + ((a / 4294967296) * (b % 4294967296) + (a % 4294967296) * (b / 4294967296)) * 4294967296 + (a % 4294967296) * (b % 4294967296) := by
    obtain ⟨x0, e0⟩ : ∃ x, x = a % 4294967296 := ⟨_, rfl⟩
    obtain ⟨x1, e1⟩ : ∃ x, x = a / 4294967296 := ⟨_, rfl⟩
    obtain ⟨y0, e2⟩ : ∃ x, x = b % 4294967296 := ⟨_, rfl⟩
    obtain ⟨y1, e3⟩ : ∃ x, x = b / 4294967296 := ⟨_, rfl⟩
    have h1 : a = x1 * 4294967296 + x0 := by omega
    have h2 : b = y1 * 4294967296 + y0 := by omega
    rw [← e0, ← e1, ← e2, ← e3]
    rw [h1, h2]
    grind
  have hhi : a * b / 18446744073709551616 = (a / 4294967296) * (b / 4294967296) + ((a / 4294967296) * (b % 4294967296) + (a % 4294967296) * (b % 4294967296) / 4294967296) / 4294967296 + (((a / 4294967296) * (b % 4294967296) + (a % 4294967296) * (b % 4294967296) / 4294967296) % 4294967296 + (a % 4294967296) * (b / 4294967296)) / 4294967296 := by
    rw [hab]; omega
  have hhl : a * b / 18446744073709551616 < 18446744073709551616 := by rw [hhi]; omega
  rw [hhi] at hhl ⊢
  clear hhi hab
  refine ac_body Tryz.func119 rfl (by kernel_rfl) fun w0 ok => ?_; show AWp _ (ctx0 w0 ok _) _ (ARet _ _ _) (entry _)
  (repeat' (first | (with_reducible first | intro hg | refine mv (by constructor) ?_) | ((with_reducible first | refine zR ?_ ?_ | refine zW mixed ?_ ?_); exact kr) | ((with_reducible apply zK); exact rfl; exact tf) | ((with_reducible apply zCD); exact rfl) | ((with_reducible apply zCN); exact rfl) | ((with_reducible apply zC); exact rfl) | ((with_reducible refine zX ?_ ?_); exact rfl) | ((with_reducible refine zE (And.intro ?_ ?_)); exact kr) | (with_reducible refine zE ?_) | ((with_reducible apply zP); (first | exact o_andU rfl rfl (by omega) | exact o_shrU rfl rfl | exact o_mulU rfl rfl (by omega) | exact o_mulM rfl rfl | exact o_addU rfl rfl (by omega) | exact dp)) | ((with_reducible apply zN); exact dn) | ((with_reducible apply zA); exact da) | ((with_reducible apply zS); exact ds) | ((with_reducible apply zY); exact rfl; exact rfl; exact tf) | ((with_reducible apply zG); exact rfl; exact rfl; exact tf) | ((with_reducible apply zU); exact rfl; exact rfl) | ((with_reducible apply zD); exact rfl; exact rfl) | ((with_reducible apply zB); exact rfl; exact rfl)))
  ((with_reducible first | apply q_retR | apply q_retN); exact rl)
  rfl
end Go.Proofs.YtfcfmpdpjmbcnaaGreatDoor
