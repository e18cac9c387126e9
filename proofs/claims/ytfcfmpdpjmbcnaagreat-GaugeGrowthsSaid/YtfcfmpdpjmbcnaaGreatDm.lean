/- Words of 64 bits: shifts, sums with carries (chapter 5). -/
import Derived.Test.YtfcfmpdpjmbcnaaGreatUe
import Derived.Laws.Externs
set_option linter.unusedVariables false
set_option linter.unusedSimpArgs false
namespace Go.Proofs.YtfcfmpdpjmbcnaaGreat
open Go.RowKit
set_option maxRecDepth 20000
set_option maxHeartbeats 8000000

section
variable {P : Program} {s : AS} {dst : Option Tmp} {ty : TypeId} {ps : String} {af : Array Edge} {gd : Option (Nat × Bool)} {t t' : TypeId} {x y z : Operand} {a b c : Nat}
theorem run_callNat {f : FuncId} {args : Array Operand} {ats : Array TypeId} {a : Act} {w : World} {v : Value} (hr : (callFunc f (args.map a.eval)).run P w = .ok (.value v) w) : (execOp a.eval ⟨dst, .call ⟨.value (.func f), args, ats⟩, ty, ps, af, gd⟩).run P w = .ok (.value v) w := by
  simp [execOp, resolve, Deferred.ofValue, Act.eval, invoke, hr]
theorem o_nat3 {f : FuncId} {ats : Array TypeId} {p q : Nat} (h : ∀ w, (callFunc f #[.int .u64 a, .int .u64 b, .int .u64 c]).run P w = .ok (.value (.tuple #[.int .u64 p, .int .u64 q])) w) (hx : s.ev x = .d (U a)) (hy : s.ev y = .d (U b)) (hz : s.ev z = .d (U c)) (gd : Option (Nat × Bool)) : Does P ⟨dst, .call ⟨.value (.func f), #[x, y, z], ats⟩, ty, ps, af, gd⟩ s [] (.put (.d (.tuple [U p, U q]))) :=
  does_pure fun c0 s' φ a' w hR hop => by
    have e1 := ge_val hR (hop x (by simp [Op.operands, Call.operands])) hx
    have e2 := ge_val hR (hop y (by simp [Op.operands, Call.operands])) hy
    have e3 := ge_val hR (hop z (by simp [Op.operands, Call.operands])) hz
    refine ⟨_, run_callNat (v := .tuple #[.int .u64 p, .int .u64 q]) ?_, ?_⟩
    · have : (#[x, y, z] : Array Operand).map a'.eval = #[.int .u64 a, .int .u64 b, .int .u64 c] := by
        simp [e1, e2, e3]
      rw [this]
      exact h w
    · show DV.rep (okOf c0 φ s') w (.tuple [U p, U q]) (.tuple #[.int .u64 p, .int .u64 q])
      rw [DV.rep]
      exact ⟨[.int .u64 p, .int .u64 q], rfl, repL_vals [.int .u64 p, .int .u64 q]⟩
theorem o_shlV {k : Nat} (hk : k ≤ 64) (hx : s.ev x = .d (U a)) (hy : s.ev y = .d (U k)) (gd : Option (Nat × Bool)) : Does P ⟨dst, .binOp .shl t x y t', ty, ps, af, gd⟩ s [] (.put (.d (U (a * 2 ^ k % 18446744073709551616)))) :=
  does_bin hx hy (bin_run fun w => by
    have h2 : min (k : Int).toNat IntKind.u64.bits = k := by
      show min (k : Int).toNat 64 = k
      omega
    have h1 : ¬ ((k : Int) < 0) := by omega
    have h3 : (a : Int) * 2 ^ k = ((a * 2 ^ k : Nat) : Int) := by rw [Int.natCast_mul, Int.natCast_pow]; rfl
    simp only [binOp, Op.shift, h1, if_false, h2, Sem.run_pure, h3, wuM])
theorem o_shrV {k : Nat} (hk : k ≤ 64) (hx : s.ev x = .d (U a)) (hy : s.ev y = .d (U k)) (gd : Option (Nat × Bool)) : Does P ⟨dst, .binOp .shr t x y t', ty, ps, af, gd⟩ s [] (.put (.d (U (a / 2 ^ k)))) :=
  does_bin hx hy (bin_run fun w => by
    have h2 : min (k : Int).toNat IntKind.u64.bits = k := by
      show min (k : Int).toNat 64 = k
      omega
    have h1 : ¬ ((k : Int) < 0) := by omega
    have h3 : (a : Int).fdiv (2 ^ k) = ((a / 2 ^ k : Nat) : Int) := by
      rw [Int.fdiv_eq_ediv_of_nonneg _ (Int.le_of_lt (Int.pow_pos (by decide))), Int.natCast_ediv, Int.natCast_pow]; rfl
    simp only [binOp, Op.shift, h1, if_false, h2, Sem.run_pure, h3])
theorem o_shlR {k r : Nat} (hr : a * 2 ^ k % 18446744073709551616 = r) (hk : k ≤ 64) (hx : s.ev x = .d (U a)) (hy : s.ev y = .d (U k)) (gd : Option (Nat × Bool)) : Does P ⟨dst, .binOp .shl t x y t', ty, ps, af, gd⟩ s [] (.put (.d (U r))) := by
  subst hr; exact o_shlV hk hx hy gd
theorem o_orV {k : Nat} (hb : b < 2 ^ k) (hd : 2 ^ k ∣ a) (hs : a + b < 18446744073709551616) (hx : s.ev x = .d (U a)) (hy : s.ev y = .d (U b)) (gd : Option (Nat × Bool)) : Does P ⟨dst, .binOp .or t x y t', ty, ps, af, gd⟩ s [] (.put (.d (U (a + b)))) :=
  does_bin hx hy (bin_run fun w => by
    have h1 : (BitVec.ofInt 64 (a : Int) ||| BitVec.ofInt 64 (b : Int)).toNat = a + b := by
      obtain ⟨q, rfl⟩ := hd
      rw [BitVec.toNat_or, BitVec.ofInt_natCast, BitVec.ofInt_natCast, BitVec.toNat_ofNat, BitVec.toNat_ofNat, Nat.mod_eq_of_lt (show 2 ^ k * q < 2 ^ 64 by omega), Nat.mod_eq_of_lt (show b < 2 ^ 64 by omega)]
      exact (Nat.two_pow_add_eq_or_of_lt hb q).symm
    show (Op.intBits .or .u64 a b).run P w = _
    simp only [Op.intBits, Sem.run_pure]
    show Result.ok (Value.int .u64 (IntKind.u64.wrap ((BitVec.ofInt 64 (a : Int) ||| BitVec.ofInt 64 (b : Int)).toNat : Int))) w = _
    rw [h1, wu (by omega)])
theorem o_orR {k r : Nat} (hr : a + b = r) (hb : b < 2 ^ k) (hd : 2 ^ k ∣ a) (hs : a + b < 18446744073709551616) (hx : s.ev x = .d (U a)) (hy : s.ev y = .d (U b)) (gd : Option (Nat × Bool)) : Does P ⟨dst, .binOp .or t x y t', ty, ps, af, gd⟩ s [] (.put (.d (U r))) := by
  subst hr; exact o_orV hb hd hs hx hy gd
theorem o_shrR {r : Nat} (hr : r = a / 4294967296) (hx : s.ev x = .d (U a)) (hy : s.ev y = .d (.val (.int .u64 32))) (gd : Option (Nat × Bool)) : Does P ⟨dst, .binOp .shr t x y t', ty, ps, af, gd⟩ s [] (.put (.d (U r))) := by
  subst hr; exact o_shrU hx hy gd
theorem o_andR {r : Nat} (hr : r = a % 4294967296) (ha : a < 18446744073709551616) (hx : s.ev x = .d (U a)) (hy : s.ev y = .d (.val (.int .u64 4294967295))) (gd : Option (Nat × Bool)) : Does P ⟨dst, .binOp .and t x y t', ty, ps, af, gd⟩ s [] (.put (.d (U r))) := by
  subst hr; exact o_andU hx hy ha gd
theorem o_subV (h : b ≤ a) (ha : a < 18446744073709551616) (hx : s.ev x = .d (U a)) (hy : s.ev y = .d (U b)) (gd : Option (Nat × Bool)) : Does P ⟨dst, .binOp .sub t x y t', ty, ps, af, gd⟩ s [] (.put (.d (U (a - b)))) :=
  o_sub hx hy (by rw [show (a : Int) - b = ((a - b : Nat) : Int) by omega]; exact wu (by omega)) gd
theorem o_subM (hb : b < 18446744073709551616) (hx : s.ev x = .d (U a)) (hy : s.ev y = .d (U b)) (gd : Option (Nat × Bool)) : Does P ⟨dst, .binOp .sub t x y t', ty, ps, af, gd⟩ s [] (.put (.d (U ((a + 18446744073709551616 - b) % 18446744073709551616)))) :=
  o_sub hx hy (by
    show (if (false && decide (((a : Int) - b) % (2 ^ 64 : Int) ≥ (2 ^ 63 : Int))) = true then ((a : Int) - b) % (2 ^ 64 : Int) - (2 ^ 64 : Int) else ((a : Int) - b) % (2 ^ 64 : Int)) = _
    rw [Bool.false_and, if_neg (by decide)]
    have : (2 ^ 64 : Int) = 18446744073709551616 := by decide
    rw [this]
    omega) gd
theorem o_subR {r : Nat} (hr : (a + 18446744073709551616 - b) % 18446744073709551616 = r) (hb : b < 18446744073709551616) (hx : s.ev x = .d (U a)) (hy : s.ev y = .d (U b)) (gd : Option (Nat × Bool)) : Does P ⟨dst, .binOp .sub t x y t', ty, ps, af, gd⟩ s [] (.put (.d (U r))) := by
  subst hr; exact o_subM hb hx hy gd
theorem o_addM (hx : s.ev x = .d (U a)) (hy : s.ev y = .d (U b)) (gd : Option (Nat × Bool)) : Does P ⟨dst, .binOp .add t x y t', ty, ps, af, gd⟩ s [] (.put (.d (U ((a + b) % 18446744073709551616)))) :=
  o_add hx hy (by rw [← Int.natCast_add]; exact wuM _) gd
theorem o_addR {r : Nat} (hr : (a + b) % 18446744073709551616 = r) (hx : s.ev x = .d (U a)) (hy : s.ev y = .d (U b)) (gd : Option (Nat × Bool)) : Does P ⟨dst, .binOp .add t x y t', ty, ps, af, gd⟩ s [] (.put (.d (U r))) := by
  subst hr; exact o_addM hx hy gd
theorem o_mulR {r : Nat} (hr : a * b % 18446744073709551616 = r) (hx : s.ev x = .d (U a)) (hy : s.ev y = .d (U b)) (gd : Option (Nat × Bool)) : Does P ⟨dst, .binOp .mul t x y t', ty, ps, af, gd⟩ s [] (.put (.d (U r))) := by
  subst hr; exact o_mulM hx hy gd
theorem o_quoV (hb : 0 < b) (ha : a < 18446744073709551616) (hx : s.ev x = .d (U a)) (hy : s.ev y = .d (U b)) (gd : Option (Nat × Bool)) : Does P ⟨dst, .binOp .quo t x y t', ty, ps, af, gd⟩ s [] (.put (.d (U (a / b)))) :=
  o_quo hx hy (by omega) (by
    rw [Int.tdiv_eq_ediv_of_nonneg (by omega), ← Int.natCast_ediv]
    exact wu (Nat.lt_of_le_of_lt (Nat.div_le_self _ _) ha)) gd
theorem o_remV (hb : 0 < b) (hx : s.ev x = .d (U a)) (hy : s.ev y = .d (U b)) (gd : Option (Nat × Bool)) : Does P ⟨dst, .binOp .rem t x y t', ty, ps, af, gd⟩ s [] (.put (.d (U (a % b)))) :=
  o_rem hx hy (by omega) (by rw [Int.tmod_eq_emod_of_nonneg (by omega), ← Int.natCast_emod]) gd
end
theorem add64_N (x y c : Nat) (hc : c ≤ 1) (w : World) : (callFunc 81 #[.int .u64 x, .int .u64 y, .int .u64 c]).run Tryz.prog w = .ok (.value (.tuple #[.int .u64 ((x + y + c) % 18446744073709551616 : Nat), .int .u64 ((x + y + c) / 18446744073709551616 : Nat)])) w := by
  rw [run_callFunc_extern (fn := Tryz.f81) (by kernel_rfl) (by kernel_rfl) (by kernel_rfl) (by kernel_rfl) (e := add64Entry) (by kernel_rfl), run_add64 x y c (by omega) (by omega) (by omega) (by omega)]
  simp only [Result.andThen]
  congr 5 <;> omega
def sub64E : Array Value → Sem Value := fun args => do
  let (x, y, b) ← Extern.MathBitsCarry.three "Sub64" args
  pure (Extern.MathBitsCarry.pair ((x + Extern.MathBitsCarry.m64 - y - b) % Extern.MathBitsCarry.m64) (if x < y + b then 1 else 0))
theorem run_sub64E {P : Program} (x y b : Nat) (hb : b ≤ 1) (w : World) : (sub64E #[.int .u64 x, .int .u64 y, .int .u64 b]).run P w = .ok (.tuple #[.int .u64 ((x + 18446744073709551616 - y - b) % 18446744073709551616 : Nat), .int .u64 (if x < y + b then 1 else 0 : Nat)]) w := by
  have : b = 0 ∨ b = 1 := by omega
  rcases this with rfl | rfl <;> rfl
theorem sub64_N (x y b : Nat) (hb : b ≤ 1) (w : World) : (callFunc 83 #[.int .u64 x, .int .u64 y, .int .u64 b]).run Tryz.prog w = .ok (.value (.tuple #[.int .u64 ((x + 18446744073709551616 - y - b) % 18446744073709551616 : Nat), .int .u64 (if x < y + b then 1 else 0 : Nat)])) w := by
  rw [run_callFunc_extern (fn := Tryz.f83) (by kernel_rfl) (by kernel_rfl) (by kernel_rfl) (by kernel_rfl) (e := sub64E) (by kernel_rfl), run_sub64E x y b hb]
  rfl

end Go.Proofs.YtfcfmpdpjmbcnaaGreat
