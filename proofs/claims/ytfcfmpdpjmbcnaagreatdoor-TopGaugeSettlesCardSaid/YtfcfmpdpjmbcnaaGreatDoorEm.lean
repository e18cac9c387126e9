/- Merged: XEi XDm XDo. -/
import Derived.Test.YtfcfmpdpjmbcnaaGreatDoorM9
import Derived.Test.YtfcfmpdpjmbcnaaGreatDoorUe
import Derived.Laws.Externs
set_option linter.unusedVariables false
set_option linter.unusedSimpArgs false
/- Merged: XDi XDj. -/
/- The division of a number of two digits by one digit, by halves of digits (Knuth). Nothing of the program. -/
namespace Go.Proofs.YtfcfmpdpjmbcnaaGreatDoor
open Go.RowKit
set_option maxRecDepth 20000

theorem dv_exit {u u1 y yn1 yn0 q r : Nat} (hy : y = yn1 * 4294967296 + yn0) (hq : q * yn1 + r = u) (h : q * yn0 ≤ 4294967296 * r + u1) : q * y ≤ u * 4294967296 + u1 := by
  subst hy hq
  rw [Nat.mul_add, Nat.add_mul, ← Nat.mul_assoc, Nat.mul_comm r]
  omega
theorem dv_more {u u1 y yn1 yn0 q r : Nat} (hy : y = yn1 * 4294967296 + yn0) (hu : u < y) (h1 : u1 < 4294967296) (hq : q * yn1 + r = u) (h : 4294967296 ≤ q ∨ 4294967296 * r + u1 < q * yn0) : u * 4294967296 + u1 < q * y := by
  rcases h with h | h
  · have h2 : 4294967296 * y ≤ q * y := Nat.mul_le_mul_right _ h
    omega
  · subst hy hq
    rw [Nat.mul_add, Nat.add_mul, ← Nat.mul_assoc, Nat.mul_comm r]
    omega
theorem dv_break {u1 yn0 q r : Nat} (h0 : yn0 < 4294967296) (hq : q ≤ 4294967296) (hr : 4294967296 ≤ r) : q * yn0 ≤ 4294967296 * r + u1 := by
  have h1 : q * yn0 ≤ 4294967296 * yn0 := Nat.mul_le_mul_right _ hq
  omega
structure DvJ (u u1 y yn1 q r : Nat) : Prop where
  e : q * yn1 + r = u
  le : (u * 4294967296 + u1) / y ≤ q
  r : r < 4294967296
  q : q ≤ 4294967297
theorem dv_start {u u1 y yn1 yn0 : Nat} (hy : y = yn1 * 4294967296 + yn0) (h0 : yn0 < 4294967296) (hn : 2147483648 ≤ yn1) (hn2 : yn1 < 4294967296) (hu : u < y) (h1 : u1 < 4294967296) : DvJ u u1 y yn1 (u / yn1) (u % yn1) := by
  have hm := Nat.mod_lt u (show 0 < yn1 by omega)
  have hd := Nat.div_add_mod u yn1
  refine ⟨by rw [Nat.mul_comm]; exact hd, ?_, by omega, ?_⟩
  · rw [Nat.le_div_iff_mul_le (by omega)]
    have h2 := Nat.div_mul_le_self (u * 4294967296 + u1) y
    generalize (u * 4294967296 + u1) / y = q at *
    subst hy
    rw [Nat.mul_add, ← Nat.mul_assoc] at h2
    omega
  · refine Nat.le_of_lt_succ (Nat.div_lt_of_lt_mul ?_)
    show u < yn1 * 4294967298
    omega
theorem dv_done {u u1 y yn1 yn0 q r : Nat} (hy : y = yn1 * 4294967296 + yn0) (hp : 0 < y) (hJ : DvJ u u1 y yn1 q r) (h : q * yn0 ≤ 4294967296 * r + u1) : q = (u * 4294967296 + u1) / y := by
  have h1 := dv_exit hy hJ.e h
  have h2 := (Nat.le_div_iff_mul_le hp).2 h1
  have := hJ.le
  omega
theorem dv_step {u u1 y yn1 yn0 q r : Nat} (hy : y = yn1 * 4294967296 + yn0) (hu : u < y) (h1 : u1 < 4294967296) (hJ : DvJ u u1 y yn1 (q + 1) r) (h : 4294967296 ≤ q + 1 ∨ 4294967296 * r + u1 < (q + 1) * yn0) (hr : r + yn1 < 4294967296) : DvJ u u1 y yn1 q (r + yn1) := by
  have h2 := dv_more hy hu h1 hJ.e h
  have h3 : (u * 4294967296 + u1) / y < q + 1 := (Nat.div_lt_iff_lt_mul (by omega)).2 h2
  have he := hJ.e
  rw [Nat.add_mul, Nat.one_mul] at he
  exact ⟨by omega, by omega, hr, by have := hJ.q; omega⟩
theorem dv_last {u u1 y yn1 yn0 q r : Nat} (hy : y = yn1 * 4294967296 + yn0) (h0 : yn0 < 4294967296) (hu : u < y) (h1 : u1 < 4294967296) (hJ : DvJ u u1 y yn1 (q + 1) r) (h : 4294967296 ≤ q + 1 ∨ 4294967296 * r + u1 < (q + 1) * yn0) (hr : 4294967296 ≤ r + yn1) : q = (u * 4294967296 + u1) / y := by
  have h2 := dv_more hy hu h1 hJ.e h
  have h3 : (u * 4294967296 + u1) / y < q + 1 := (Nat.div_lt_iff_lt_mul (by omega)).2 h2
  have he := hJ.e
  rw [Nat.add_mul, Nat.one_mul] at he
  have h4 := dv_exit (u := u) (u1 := u1) hy (q := q) (r := r + yn1) (by omega) (dv_break h0 (by have := hJ.q; omega) hr)
  have h5 := (Nat.le_div_iff_mul_le (show 0 < y by omega)).2 h4
  omega
theorem dv_pos {u u1 y yn1 yn0 q r : Nat} (hy : y = yn1 * 4294967296 + yn0) (hJ : DvJ u u1 y yn1 q r) (h : 4294967296 ≤ q ∨ 4294967296 * r + u1 < q * yn0) : 0 < q := by
  rcases h with h | h
  · omega
  · refine Nat.pos_of_ne_zero fun e => ?_
    subst e
    rw [Nat.zero_mul] at h
    omega
theorem dv_two (N y B u0 : Nat) (hy : 0 < y) : (N * B + u0) / y = N / y * B + (N % y * B + u0) / y ∧ (N * B + u0) % y = (N % y * B + u0) % y := by
  have e : N * B + u0 = y * (N / y * B) + (N % y * B + u0) := by
    conv => lhs; rw [← Nat.div_add_mod N y]
    rw [Nat.add_mul, Nat.mul_assoc]
    omega
  constructor
  · rw [e, Nat.mul_add_div hy]
  · rw [e, Nat.mul_add_mod]
theorem dv_norm (N y k : Nat) (hk : 0 < k) : N * k / (y * k) = N / y ∧ N * k % (y * k) / k = N % y := by
  constructor
  · exact Nat.mul_div_mul_right _ _ hk
  · rw [Nat.mul_mod_mul_right, Nat.mul_div_cancel _ hk]
theorem dv_half (N y B u0 : Nat) (hy : 0 < y) (h0 : u0 < B) : (N % y * B + u0) / y < B := by
  rw [Nat.div_lt_iff_lt_mul hy]
  have h1 := Nat.mod_lt N hy
  have h2 : (N % y + 1) * B ≤ y * B := Nat.mul_le_mul_right _ h1
  rw [Nat.add_mul, Nat.one_mul, Nat.mul_comm y] at h2
  omega

end Go.Proofs.YtfcfmpdpjmbcnaaGreatDoor

/- Numbers of two digits to the base 2 to the power of 64, with their sign (chapter 5). Nothing of the program. -/
namespace Go.Proofs.YtfcfmpdpjmbcnaaGreatDoor
open Go.RowKit
set_option maxRecDepth 20000

abbrev Wd := Nat × Bool
abbrev wd0 : Wd := (0, false)
def wvl (w : Wd) : Int := bif w.2 then -(w.1 : Int) else (w.1 : Int)
def byW (w : Wd) (n : Int) : Wd := (w.1 * n.natAbs, w.2 != decide (n < 0))
def plW (a b : Wd) : Wd := bif a.2 == b.2 then (a.1 + b.1, a.2) else bif decide (a.1 < b.1) then (b.1 - a.1, b.2) else (a.1 - b.1, a.2)
def ovW (w : Wd) (d : Nat) : Wd := (w.1 / d, w.2)
def ofW (n : Int) : Wd := (n.natAbs, decide (n < 0))
def eqW (a b : Wd) : Bool := a.1 == b.1 && (a.2 == b.2 || a.1 == 0)
theorem wvl_abs (w : Wd) : (wvl w).natAbs = w.1 := by
  obtain ⟨m, s⟩ := w
  cases s
  · show ((m : Int)).natAbs = m
    omega
  · show (-(m : Int)).natAbs = m
    omega
theorem wvl_of (n : Int) : wvl (ofW n) = n := by
  unfold wvl ofW
  by_cases h : n < 0
  · rw [decide_eq_true h]
    show -((n.natAbs : Nat) : Int) = n
    omega
  · rw [decide_eq_false h]
    show ((n.natAbs : Nat) : Int) = n
    omega
theorem wvl_by (w : Wd) (n : Int) : wvl (byW w n) = wvl w * n := by
  obtain ⟨m, s⟩ := w
  unfold byW wvl
  by_cases h : n < 0
  · rw [decide_eq_true h]
    have e : (n.natAbs : Int) = -n := by omega
    cases s
    · show -((m * n.natAbs : Nat) : Int) = (m : Int) * n
      rw [Int.natCast_mul, e, Int.mul_neg, Int.neg_neg]
    · show ((m * n.natAbs : Nat) : Int) = -(m : Int) * n
      rw [Int.natCast_mul, e, Int.mul_neg, Int.neg_mul]
  · rw [decide_eq_false h]
    have e : (n.natAbs : Int) = n := by omega
    cases s
    · show ((m * n.natAbs : Nat) : Int) = (m : Int) * n
      rw [Int.natCast_mul, e]
    · show -((m * n.natAbs : Nat) : Int) = -(m : Int) * n
      rw [Int.natCast_mul, e, Int.neg_mul]
theorem wvl_pl (a b : Wd) : wvl (plW a b) = wvl a + wvl b := by
  obtain ⟨m, s⟩ := a
  obtain ⟨n, t⟩ := b
  cases s <;> cases t <;> by_cases h : m < n <;> simp [wvl, plW, h] <;> omega
theorem plW_le (a b : Wd) : (plW a b).1 ≤ a.1 + b.1 := by
  obtain ⟨m, s⟩ := a
  obtain ⟨n, t⟩ := b
  cases s <;> cases t <;> by_cases h : m < n <;> simp [plW, h] <;> omega
theorem eqW_iff (a b : Wd) : eqW a b = decide (wvl a = wvl b) := by
  obtain ⟨m, s⟩ := a
  obtain ⟨n, t⟩ := b
  rw [Bool.eq_iff_iff, decide_eq_true_iff]
  cases s <;> cases t <;> simp only [wvl, eqW, cond_true, cond_false, Bool.and_eq_true, Bool.or_eq_true, beq_iff_eq, reduceCtorEq, eq_self, false_or, true_or, and_true] <;> omega
theorem wvl_ov {w : Wd} {d : Nat} {q : Int} (hd : 0 < d) (h : wvl w = q * (d : Int)) : wvl (ovW w d) = q := by
  obtain ⟨m, s⟩ := w
  cases s
  · have h : (m : Int) = q * (d : Int) := h
    show ((m / d : Nat) : Int) = q
    rw [Int.natCast_ediv, h, Int.mul_ediv_cancel _ (by omega)]
  · have h : -(m : Int) = q * (d : Int) := h
    have h2 : (m : Int) = -q * (d : Int) := by rw [Int.neg_mul]; omega
    show -((m / d : Nat) : Int) = q
    rw [Int.natCast_ediv, h2, Int.mul_ediv_cancel _ (by omega)]
    omega
def smW (cs : List Int) (st : List Wd) : Nat → Wd
  | 0 => wd0
  | i + 1 => plW (smW cs st i) (byW (st.getD i wd0) (nth cs i))
theorem smW_le {cs : List Int} {st : List Wd} {K : Nat} (hs : ∀ i, (st.getD i wd0).1 ≤ K) (hc : ∀ i, (nth cs i).natAbs ≤ 10) : ∀ i, (smW cs st i).1 ≤ i * (K * 10)
  | 0 => Nat.zero_le _
  | i + 1 => by
    have h1 := plW_le (smW cs st i) (byW (st.getD i wd0) (nth cs i))
    have h2 : (byW (st.getD i wd0) (nth cs i)).1 ≤ K * 10 := Nat.mul_le_mul (hs i) (hc i)
    have h3 := smW_le hs hc i
    show (plW (smW cs st i) (byW (st.getD i wd0) (nth cs i))).1 ≤ _
    rw [Nat.add_mul, Nat.one_mul]
    omega

end Go.Proofs.YtfcfmpdpjmbcnaaGreatDoor

/- Words of 64 bits: shifts, sums with carries (chapter 5). -/
namespace Go.Proofs.YtfcfmpdpjmbcnaaGreatDoor
open Go.RowKit
set_option maxRecDepth 20000
set_option maxHeartbeats 8000000

section
variable {P : Program} {s : AS} {dst : Option Tmp} {ty : TypeId} {ps : String} {af : Array Edge} {gd : Option (Nat × Bool)} {t t' : TypeId} {x y z : Operand} {a b c : Nat}
theorem run_callNat {f : FuncId} {args : Array Operand} {ats : Array TypeId} {a : Act} {w : World} {v : Value} (hr : (callFunc f (args.map a.eval)).run P w = .ok (.value v) w) : (execOp a.eval ⟨dst, .call ⟨.value (.func f), args, ats⟩, ty, ps, af, gd⟩).run P w = .ok (.value v) w := by
  simp [execOp, resolve, Deferred.ofValue, Act.eval, invoke, hr]
theorem o_nat3 {f : FuncId} {ats : Array TypeId} {p q : Nat} (h : ∀ w, (callFunc f #[.int .u64 a, .int .u64 b, .int .u64 c]).run P w = .ok (.value (.tuple #[.int .u64 p, .int .u64 q])) w) (hx : s.ev x = .d (U a)) (hy : s.ev y = .d (U b)) (hz : s.ev z = .d (U c)) (gd : Option (Nat × Bool)) : Does P ⟨dst, .call ⟨.value (.func f), #[x, y, z], ats⟩, ty, ps, af, gd⟩ s [] (.put (.d (.tuple [U p, U q]))) :=
  does_pure fun c0 s' φ a' w hR hop => by
    have e1 := ge_val hR (hop x (by simp [Op.operands, Call.operands])) hx
    have e2 := ge_val hR (hop y (by simp [Op.operands, Call.operands])) hy
    have e3 := ge_val hR (hop z (by simp [Op.operands, Call.operands])) hz
    refine ⟨_, run_callNat (v := .tuple #[.int .u64 p, .int .u64 q]) ?_, ?_⟩
    · have : (#[x, y, z] : Array Operand).map a'.eval = #[.int .u64 a, .int .u64 b, .int .u64 c] := by
        simp [e1, e2, e3]
      rw [this]
      exact h w
    · show DV.rep (okOf c0 φ s') w (.tuple [U p, U q]) (.tuple #[.int .u64 p, .int .u64 q])
      rw [DV.rep]
      exact ⟨[.int .u64 p, .int .u64 q], rfl, repL_vals [.int .u64 p, .int .u64 q]⟩
theorem o_shlV {k : Nat} (hk : k ≤ 64) (hx : s.ev x = .d (U a)) (hy : s.ev y = .d (U k)) (gd : Option (Nat × Bool)) : Does P ⟨dst, .binOp .shl t x y t', ty, ps, af, gd⟩ s [] (.put (.d (U (a * 2 ^ k % 18446744073709551616)))) :=
  does_bin hx hy (bin_run fun w => by
    have h2 : min (k : Int).toNat IntKind.u64.bits = k := by
      show min (k : Int).toNat 64 = k
      omega
    have h1 : ¬ ((k : Int) < 0) := by omega
    have h3 : (a : Int) * 2 ^ k = ((a * 2 ^ k : Nat) : Int) := by rw [Int.natCast_mul, Int.natCast_pow]; rfl
    simp only [binOp, Op.shift, h1, if_false, h2, Sem.run_pure, h3, wuM])
theorem o_shrV {k : Nat} (hk : k ≤ 64) (hx : s.ev x = .d (U a)) (hy : s.ev y = .d (U k)) (gd : Option (Nat × Bool)) : Does P ⟨dst, .binOp .shr t x y t', ty, ps, af, gd⟩ s [] (.put (.d (U (a / 2 ^ k)))) :=
  does_bin hx hy (bin_run fun w => by
    have h2 : min (k : Int).toNat IntKind.u64.bits = k := by
      show min (k : Int).toNat 64 = k
      omega
    have h1 : ¬ ((k : Int) < 0) := by omega
    have h3 : (a : Int).fdiv (2 ^ k) = ((a / 2 ^ k : Nat) : Int) := by
      rw [Int.fdiv_eq_ediv_of_nonneg _ (Int.le_of_lt (Int.pow_pos (by decide))), Int.natCast_ediv, Int.natCast_pow]; rfl
    simp only [binOp, Op.shift, h1, if_false, h2, Sem.run_pure, h3])
theorem o_shlR {k r : Nat} (hr : a * 2 ^ k % 18446744073709551616 = r) (hk : k ≤ 64) (hx : s.ev x = .d (U a)) (hy : s.ev y = .d (U k)) (gd : Option (Nat × Bool)) : Does P ⟨dst, .binOp .shl t x y t', ty, ps, af, gd⟩ s [] (.put (.d (U r))) := by
  subst hr; exact o_shlV hk hx hy gd
theorem o_orV {k : Nat} (hb : b < 2 ^ k) (hd : 2 ^ k ∣ a) (hs : a + b < 18446744073709551616) (hx : s.ev x = .d (U a)) (hy : s.ev y = .d (U b)) (gd : Option (Nat × Bool)) : Does P ⟨dst, .binOp .or t x y t', ty, ps, af, gd⟩ s [] (.put (.d (U (a + b)))) :=
  does_bin hx hy (bin_run fun w => by
    have h1 : (BitVec.ofInt 64 (a : Int) ||| BitVec.ofInt 64 (b : Int)).toNat = a + b := by
      obtain ⟨q, rfl⟩ := hd
      rw [BitVec.toNat_or, BitVec.ofInt_natCast, BitVec.ofInt_natCast, BitVec.toNat_ofNat, BitVec.toNat_ofNat, Nat.mod_eq_of_lt (show 2 ^ k * q < 2 ^ 64 by omega), Nat.mod_eq_of_lt (show b < 2 ^ 64 by omega)]
      exact (Nat.two_pow_add_eq_or_of_lt hb q).symm
    show (Op.intBits .or .u64 a b).run P w = _
    simp only [Op.intBits, Sem.run_pure]
    show Result.ok (Value.int .u64 (IntKind.u64.wrap ((BitVec.ofInt 64 (a : Int) ||| BitVec.ofInt 64 (b : Int)).toNat : Int))) w = _
    rw [h1, wu (by omega)])
theorem o_orR {k r : Nat} (hr : a + b = r) (hb : b < 2 ^ k) (hd : 2 ^ k ∣ a) (hs : a + b < 18446744073709551616) (hx : s.ev x = .d (U a)) (hy : s.ev y = .d (U b)) (gd : Option (Nat × Bool)) : Does P ⟨dst, .binOp .or t x y t', ty, ps, af, gd⟩ s [] (.put (.d (U r))) := by
  subst hr; exact o_orV hb hd hs hx hy gd
theorem o_shrR {r : Nat} (hr : r = a / 4294967296) (hx : s.ev x = .d (U a)) (hy : s.ev y = .d (.val (.int .u64 32))) (gd : Option (Nat × Bool)) : Does P ⟨dst, .binOp .shr t x y t', ty, ps, af, gd⟩ s [] (.put (.d (U r))) := by
  subst hr; exact o_shrU hx hy gd
theorem o_andR {r : Nat} (hr : r = a % 4294967296) (ha : a < 18446744073709551616) (hx : s.ev x = .d (U a)) (hy : s.ev y = .d (.val (.int .u64 4294967295))) (gd : Option (Nat × Bool)) : Does P ⟨dst, .binOp .and t x y t', ty, ps, af, gd⟩ s [] (.put (.d (U r))) := by
  subst hr; exact o_andU hx hy ha gd
theorem o_subV (h : b ≤ a) (ha : a < 18446744073709551616) (hx : s.ev x = .d (U a)) (hy : s.ev y = .d (U b)) (gd : Option (Nat × Bool)) : Does P ⟨dst, .binOp .sub t x y t', ty, ps, af, gd⟩ s [] (.put (.d (U (a - b)))) :=
  o_sub hx hy (by rw [show (a : Int) - b = ((a - b : Nat) : Int) by omega]; exact wu (by omega)) gd
theorem o_subM (hb : b < 18446744073709551616) (hx : s.ev x = .d (U a)) (hy : s.ev y = .d (U b)) (gd : Option (Nat × Bool)) : Does P ⟨dst, .binOp .sub t x y t', ty, ps, af, gd⟩ s [] (.put (.d (U ((a + 18446744073709551616 - b) % 18446744073709551616)))) :=
  o_sub hx hy (by
    show (if (false && decide (((a : Int) - b) % (2 ^ 64 : Int) ≥ (2 ^ 63 : Int))) = true then ((a : Int) - b) % (2 ^ 64 : Int) - (2 ^ 64 : Int) else ((a : Int) - b) % (2 ^ 64 : Int)) = _
    rw [Bool.false_and, if_neg (by decide)]
    have : (2 ^ 64 : Int) = 18446744073709551616 := by decide
    rw [this]
    omega) gd
theorem o_subR {r : Nat} (hr : (a + 18446744073709551616 - b) % 18446744073709551616 = r) (hb : b < 18446744073709551616) (hx : s.ev x = .d (U a)) (hy : s.ev y = .d (U b)) (gd : Option (Nat × Bool)) : Does P ⟨dst, .binOp .sub t x y t', ty, ps, af, gd⟩ s [] (.put (.d (U r))) := by
  subst hr; exact o_subM hb hx hy gd
theorem o_addM (hx : s.ev x = .d (U a)) (hy : s.ev y = .d (U b)) (gd : Option (Nat × Bool)) : Does P ⟨dst, .binOp .add t x y t', ty, ps, af, gd⟩ s [] (.put (.d (U ((a + b) % 18446744073709551616)))) :=
  o_add hx hy (by rw [← Int.natCast_add]; exact wuM _) gd
theorem o_addR {r : Nat} (hr : (a + b) % 18446744073709551616 = r) (hx : s.ev x = .d (U a)) (hy : s.ev y = .d (U b)) (gd : Option (Nat × Bool)) : Does P ⟨dst, .binOp .add t x y t', ty, ps, af, gd⟩ s [] (.put (.d (U r))) := by
  subst hr; exact o_addM hx hy gd
theorem o_mulR {r : Nat} (hr : a * b % 18446744073709551616 = r) (hx : s.ev x = .d (U a)) (hy : s.ev y = .d (U b)) (gd : Option (Nat × Bool)) : Does P ⟨dst, .binOp .mul t x y t', ty, ps, af, gd⟩ s [] (.put (.d (U r))) := by
  subst hr; exact o_mulM hx hy gd
theorem o_quoV (hb : 0 < b) (ha : a < 18446744073709551616) (hx : s.ev x = .d (U a)) (hy : s.ev y = .d (U b)) (gd : Option (Nat × Bool)) : Does P ⟨dst, .binOp .quo t x y t', ty, ps, af, gd⟩ s [] (.put (.d (U (a / b)))) :=
  o_quo hx hy (by omega) (by
    rw [Int.tdiv_eq_ediv_of_nonneg (by omega), ← Int.natCast_ediv]
    exact wu (Nat.lt_of_le_of_lt (Nat.div_le_self _ _) ha)) gd
theorem o_remV (hb : 0 < b) (hx : s.ev x = .d (U a)) (hy : s.ev y = .d (U b)) (gd : Option (Nat × Bool)) : Does P ⟨dst, .binOp .rem t x y t', ty, ps, af, gd⟩ s [] (.put (.d (U (a % b)))) :=
  o_rem hx hy (by omega) (by rw [Int.tmod_eq_emod_of_nonneg (by omega), ← Int.natCast_emod]) gd
end
theorem add64_N (x y c : Nat) (hc : c ≤ 1) (w : World) : (callFunc 116 #[.int .u64 x, .int .u64 y, .int .u64 c]).run Tryz.prog w = .ok (.value (.tuple #[.int .u64 ((x + y + c) % 18446744073709551616 : Nat), .int .u64 ((x + y + c) / 18446744073709551616 : Nat)])) w := by
  rw [run_callFunc_extern (fn := Tryz.f116) (by kernel_rfl) (by kernel_rfl) (by kernel_rfl) (by kernel_rfl) (e := add64Entry) (by kernel_rfl), run_add64 x y c (by omega) (by omega) (by omega) (by omega)]
  simp only [Result.andThen]
  congr 5 <;> omega
def sub64E : Array Value → Sem Value := fun args => do
  let (x, y, b) ← Extern.MathBitsCarry.three "Sub64" args
  pure (Extern.MathBitsCarry.pair ((x + Extern.MathBitsCarry.m64 - y - b) % Extern.MathBitsCarry.m64) (if x < y + b then 1 else 0))
theorem run_sub64E {P : Program} (x y b : Nat) (hb : b ≤ 1) (w : World) : (sub64E #[.int .u64 x, .int .u64 y, .int .u64 b]).run P w = .ok (.tuple #[.int .u64 ((x + 18446744073709551616 - y - b) % 18446744073709551616 : Nat), .int .u64 (if x < y + b then 1 else 0 : Nat)]) w := by
  have : b = 0 ∨ b = 1 := by omega
  rcases this with rfl | rfl <;> rfl
theorem sub64_N (x y b : Nat) (hb : b ≤ 1) (w : World) : (callFunc 118 #[.int .u64 x, .int .u64 y, .int .u64 b]).run Tryz.prog w = .ok (.value (.tuple #[.int .u64 ((x + 18446744073709551616 - y - b) % 18446744073709551616 : Nat), .int .u64 (if x < y + b then 1 else 0 : Nat)])) w := by
  rw [run_callFunc_extern (fn := Tryz.f118) (by kernel_rfl) (by kernel_rfl) (by kernel_rfl) (by kernel_rfl) (e := sub64E) (by kernel_rfl), run_sub64E x y b hb]
  rfl

end Go.Proofs.YtfcfmpdpjmbcnaaGreatDoor

/- Wide numbers (chapter 5): products, sums, comparisons. -/
namespace Go.Proofs.YtfcfmpdpjmbcnaaGreatDoor
open Go.RowKit
set_option maxRecDepth 20000
set_option maxHeartbeats 8000000

abbrev WV (w : Wd) : DV := .agg [U (w.1 / 18446744073709551616), U (w.1 % 18446744073709551616), B w.2]
theorem mul_hl (x N : Nat) : x * N / 18446744073709551616 = x / 18446744073709551616 * N + x % 18446744073709551616 * N / 18446744073709551616 ∧ x * N % 18446744073709551616 = x % 18446744073709551616 * N % 18446744073709551616 := by
  have e : x * N = 18446744073709551616 * (x / 18446744073709551616 * N) + x % 18446744073709551616 * N := by
    conv => lhs; rw [← Nat.div_add_mod x 18446744073709551616]
    rw [Nat.add_mul, Nat.mul_assoc]
  constructor
  · rw [e, Nat.mul_add_div (by decide)]
  · rw [e, Nat.mul_add_mod]
theorem gwOf_A (n : Int) (hn : Sm n) : AC Tryz.prog 71 [I n] (WV (ofW n)) := by
  obtain ⟨hn1, hn2⟩ := id hn
  have e1 : (ofW n).1 / 18446744073709551616 = 0 := by show n.natAbs / _ = 0; omega
  have e2 : (ofW n).1 % 18446744073709551616 = n.natAbs := by show n.natAbs % _ = _; omega
  unfold WV
  rw [e1, e2]
  have hs := size_A n hn
  refine ac_body Tryz.func71 rfl (by kernel_rfl) fun w0 ok => ?_; show AWp _ (ctx0 w0 ok _) _ (ARet _ _ _) (entry _)
  (repeat' (first | (with_reducible first | intro hg | refine mv (by constructor) ?_) | ((with_reducible first | refine zR ?_ ?_ | refine zW mixed ?_ ?_); exact kr) | ((with_reducible apply zK); exact rfl; exact tf) | ((with_reducible apply zCD); exact rfl) | ((with_reducible apply zCN); exact rfl) | ((with_reducible apply zC); exact rfl) | ((with_reducible refine zX ?_ ?_); exact rfl) | ((with_reducible refine zE (And.intro ?_ ?_)); exact kr) | (with_reducible refine zE ?_) | ((with_reducible apply zP); (first | exact o_conv (k' := .u64) rfl (wu (by omega)) | exact dp | exact oc rfl (hs))) | ((with_reducible apply zN); exact dn) | ((with_reducible apply zA); exact da) | ((with_reducible apply zS); exact ds) | ((with_reducible apply zY); exact rfl; exact rfl; exact tf) | ((with_reducible apply zG); exact rfl; exact rfl; exact tf) | ((with_reducible apply zU); exact rfl; exact rfl) | ((with_reducible apply zD); exact rfl; exact rfl) | ((with_reducible apply zB); exact rfl; exact rfl)))
  ((with_reducible first | apply q_retR | apply q_retN); exact rl)
  rfl
theorem by_A (w : Wd) (n : Int) (hn : Sm n) (h : w.1 * n.natAbs < 340282366920938463463374607431768211456) : AC Tryz.prog 73 [WV w, I n] (WV (byW w n)) := by
  obtain ⟨hn1, hn2⟩ := id hn
  have hs := size_A n hn
  obtain ⟨e1, e2⟩ := mul_hl w.1 n.natAbs
  have e3 : w.1 * n.natAbs / 18446744073709551616 < 18446744073709551616 := by omega
  have hm := mul64_A (w.1 % 18446744073709551616) n.natAbs (by omega) (by omega)
  obtain ⟨N, hN⟩ : ∃ N, N = n.natAbs := ⟨_, rfl⟩
  show AC _ _ _ (.agg [U (w.1 * n.natAbs / 18446744073709551616), U (w.1 * n.natAbs % 18446744073709551616), B (w.2 != decide (n < 0))])
  rw [← hN] at hs hm e1 e2 e3 h ⊢
  rw [e1] at e3
  rw [e1, e2]
  clear e1 e2 h
  generalize w.1 % 18446744073709551616 * N / 18446744073709551616 = c at *
  generalize w.1 % 18446744073709551616 * N % 18446744073709551616 = d at *
  refine ac_body Tryz.func73 rfl (by kernel_rfl) fun w0 ok => ?_; show AWp _ (ctx0 w0 ok _) _ (ARet _ _ _) (entry _)
  (repeat' (first | (with_reducible first | intro hg | refine mv (by constructor) ?_) | ((with_reducible first | refine zR ?_ ?_ | refine zW mixed ?_ ?_); exact kr) | ((with_reducible apply zK); exact rfl; exact tf) | ((with_reducible apply zCD); exact rfl) | ((with_reducible apply zCN); exact rfl) | ((with_reducible apply zC); exact rfl) | ((with_reducible refine zX ?_ ?_); exact rfl) | ((with_reducible refine zE (And.intro ?_ ?_)); exact kr) | (with_reducible refine zE ?_) | ((with_reducible apply zP); (first | exact o_conv (k' := .u64) rfl (wu (by omega)) | exact o_mulU rfl rfl (by omega) | exact o_addU rfl rfl (by omega) | exact o_neqB rfl rfl | exact dp | exact oc rfl (hs) | exact oc rfl (hm))) | ((with_reducible apply zN); exact dn) | ((with_reducible apply zA); exact da) | ((with_reducible apply zS); exact ds) | ((with_reducible apply zY); exact rfl; exact rfl; exact tf) | ((with_reducible apply zG); exact rfl; exact rfl; exact tf) | ((with_reducible apply zU); exact rfl; exact rfl) | ((with_reducible apply zD); exact rfl; exact rfl) | ((with_reducible apply zB); exact rfl; exact rfl)))
  ((with_reducible first | apply q_retR | apply q_retN); exact rl)
  rfl
theorem isZero_A (w : Wd) : AC Tryz.prog 149 [WV w] (B (w.1 == 0)) := by
  by_cases h : w.1 = 0
  · rw [show (w.1 == 0) = true by rw [h]; rfl]
    refine ac_body Tryz.func149 rfl (by kernel_rfl) fun w0 ok => ?_; show AWp _ (ctx0 w0 ok _) _ (ARet _ _ _) (entry _)
    (repeat' (first | (with_reducible first | intro hg | refine mv (by constructor) ?_) | ((with_reducible first | refine zR ?_ ?_ | refine zW mixed ?_ ?_); exact kr) | ((with_reducible apply zK); exact rfl; exact tf) | ((with_reducible apply zCD); exact rfl) | ((with_reducible apply zCN); exact rfl) | ((with_reducible apply zC); exact rfl) | ((with_reducible refine zX ?_ ?_); exact rfl) | ((with_reducible refine zE (And.intro ?_ ?_)); exact kr) | (with_reducible refine zE ?_) | ((with_reducible apply zP); exact dp) | ((with_reducible apply zN); exact dn) | ((with_reducible apply zA); exact da) | ((with_reducible apply zS); exact ds) | ((with_reducible apply zY); exact rfl; exact rfl; exact tf) | ((with_reducible apply zG); exact rfl; exact rfl; exact tf) | ((with_reducible apply zU); exact rfl; exact rfl) | ((with_reducible apply zD); exact rfl; exact rfl) | ((with_reducible apply zB); exact rfl; exact rfl)))
    ((with_reducible first | apply q_retR | apply q_retN); exact rl)
    exact congrArg (fun b => B b) (decide_eq_true (by omega)).symm
  · rw [show (w.1 == 0) = false from beq_false_of_ne h]
    by_cases h1 : w.1 / 18446744073709551616 = 0
    · refine ac_body Tryz.func149 rfl (by kernel_rfl) fun w0 ok => ?_; show AWp _ (ctx0 w0 ok _) _ (ARet _ _ _) (entry _)
      (repeat' (first | (with_reducible first | intro hg | refine mv (by constructor) ?_) | ((with_reducible first | refine zR ?_ ?_ | refine zW mixed ?_ ?_); exact kr) | ((with_reducible apply zK); exact rfl; exact tf) | ((with_reducible apply zCD); exact rfl) | ((with_reducible apply zCN); exact rfl) | ((with_reducible apply zC); exact rfl) | ((with_reducible refine zX ?_ ?_); exact rfl) | ((with_reducible refine zE (And.intro ?_ ?_)); exact kr) | (with_reducible refine zE ?_) | ((with_reducible apply zP); exact dp) | ((with_reducible apply zN); exact dn) | ((with_reducible apply zA); exact da) | ((with_reducible apply zS); exact ds) | ((with_reducible apply zY); exact rfl; exact rfl; exact tf) | ((with_reducible apply zG); exact rfl; exact rfl; exact tf) | ((with_reducible apply zU); exact rfl; exact rfl) | ((with_reducible apply zD); exact rfl; exact rfl) | ((with_reducible apply zB); exact rfl; exact rfl)))
      ((with_reducible first | apply q_retR | apply q_retN); exact rl)
      exact congrArg (fun b => B b) (decide_eq_false (by omega)).symm
    · refine ac_body Tryz.func149 rfl (by kernel_rfl) fun w0 ok => ?_; show AWp _ (ctx0 w0 ok _) _ (ARet _ _ _) (entry _)
      exact zF
theorem isLess_A (w o : Wd) : AC Tryz.prog 117 [WV w, WV o] (B (decide (w.1 < o.1))) := by
  by_cases h1 : w.1 / 18446744073709551616 < o.1 / 18446744073709551616
  · rw [decide_eq_true (show w.1 < o.1 by omega)]
    refine ac_body Tryz.func117 rfl (by kernel_rfl) fun w0 ok => ?_; show AWp _ (ctx0 w0 ok _) _ (ARet _ _ _) (entry _)
    exact zF
  by_cases h2 : w.1 / 18446744073709551616 = o.1 / 18446744073709551616
  · rw [show decide (w.1 < o.1) = decide (((w.1 % 18446744073709551616 : Nat) : Int) < ((o.1 % 18446744073709551616 : Nat) : Int)) from decide_eq_decide.2 (by omega)]
    refine ac_body Tryz.func117 rfl (by kernel_rfl) fun w0 ok => ?_; show AWp _ (ctx0 w0 ok _) _ (ARet _ _ _) (entry _)
    exact zF
  · rw [decide_eq_false (show ¬ w.1 < o.1 by omega)]
    refine ac_body Tryz.func117 rfl (by kernel_rfl) fun w0 ok => ?_; show AWp _ (ctx0 w0 ok _) _ (ARet _ _ _) (entry _)
    exact zF
theorem equals_A (w o : Wd) : AC Tryz.prog 122 [WV w, WV o] (B (eqW w o)) := by
  obtain ⟨m, s⟩ := w
  obtain ⟨n, t⟩ := o
  have hz := isZero_A (m, s)
  by_cases h : m = n
  · subst h
    have e : eqW (m, s) (m, t) = (s == t || m == 0) := by
      show (m == m && (s == t || m == 0)) = _
      rw [beq_self_eq_true, Bool.true_and]
    rw [e]
    have hz : AC Tryz.prog 149 [WV (m, s)] (B (m == 0)) := hz
    cases s <;> cases t
    all_goals
      refine ac_body Tryz.func122 rfl (by kernel_rfl) fun w0 ok => ?_; show AWp _ (ctx0 w0 ok _) _ (ARet _ _ _) (entry _)
      (repeat' (first | (with_reducible first | intro hg | refine mv (by constructor) ?_) | ((with_reducible first | refine zR ?_ ?_ | refine zW mixed ?_ ?_); exact kr) | ((with_reducible apply zK); exact rfl; exact tf) | ((with_reducible apply zCD); exact rfl) | ((with_reducible apply zCN); exact rfl) | ((with_reducible apply zC); exact rfl) | ((with_reducible refine zX ?_ ?_); exact rfl) | ((with_reducible refine zE (And.intro ?_ ?_)); exact kr) | (with_reducible refine zE ?_) | ((with_reducible apply zP); (first | exact o_eqlB rfl rfl | exact dp | exact oc rfl (hz))) | ((with_reducible apply zN); exact dn) | ((with_reducible apply zA); exact da) | ((with_reducible apply zS); exact ds) | ((with_reducible apply zY); exact rfl; exact rfl; exact tf) | ((with_reducible apply zG); exact rfl; exact rfl; exact tf) | ((with_reducible apply zU); exact rfl; exact rfl) | ((with_reducible apply zD); exact rfl; exact rfl) | ((with_reducible apply zB); exact rfl; exact rfl)))
      ((with_reducible first | apply q_retR | apply q_retN); exact rl)
      rfl
  · have e : eqW (m, s) (n, t) = false := by
      show (m == n && (s == t || m == 0)) = _
      rw [beq_false_of_ne h, Bool.false_and]
    rw [e]
    by_cases h1 : m / 18446744073709551616 = n / 18446744073709551616
    all_goals
      refine ac_body Tryz.func122 rfl (by kernel_rfl) fun w0 ok => ?_; show AWp _ (ctx0 w0 ok _) _ (ARet _ _ _) (entry _)
      (repeat' (first | (with_reducible first | intro hg | refine mv (by constructor) ?_) | ((with_reducible first | refine zR ?_ ?_ | refine zW mixed ?_ ?_); exact kr) | ((with_reducible apply zK); exact rfl; exact tf) | ((with_reducible apply zCD); exact rfl) | ((with_reducible apply zCN); exact rfl) | ((with_reducible apply zC); exact rfl) | ((with_reducible refine zX ?_ ?_); exact rfl) | ((with_reducible refine zE (And.intro ?_ ?_)); exact kr) | (with_reducible refine zE ?_) | ((with_reducible apply zP); (first | exact o_eqlB rfl rfl | exact dp | exact oc rfl (hz))) | ((with_reducible apply zN); exact dn) | ((with_reducible apply zA); exact da) | ((with_reducible apply zS); exact ds) | ((with_reducible apply zY); exact rfl; exact rfl; exact tf) | ((with_reducible apply zG); exact rfl; exact rfl; exact tf) | ((with_reducible apply zU); exact rfl; exact rfl) | ((with_reducible apply zD); exact rfl; exact rfl) | ((with_reducible apply zB); exact rfl; exact rfl)))
      ((with_reducible first | apply q_retR | apply q_retN); exact rl)
      first | rfl | exact congrArg (fun b => B b) (decide_eq_false (by omega)).symm
theorem sub_hi (m n : Nat) (h : n ≤ m) (hm : m < 340282366920938463463374607431768211456) : (m / 18446744073709551616 + 18446744073709551616 - n / 18446744073709551616 - (if m % 18446744073709551616 < n % 18446744073709551616 + 0 then 1 else 0)) % 18446744073709551616 = (m - n) / 18446744073709551616 := by
  split <;> omega
theorem plus_A (a b : Wd) (h : a.1 + b.1 < 340282366920938463463374607431768211456) : AC Tryz.prog 72 [WV a, WV b] (WV (plW a b)) := by
  obtain ⟨m, s⟩ := a
  obtain ⟨n, t⟩ := b
  have h : m + n < 340282366920938463463374607431768211456 := h
  by_cases hst : s = t
  · subst hst
    have e1 : (m / 18446744073709551616 + n / 18446744073709551616 + (m % 18446744073709551616 + n % 18446744073709551616 + 0) / 18446744073709551616) % 18446744073709551616 = (m + n) / 18446744073709551616 := by omega
    have e2 : (m % 18446744073709551616 + n % 18446744073709551616 + 0) % 18446744073709551616 = (m + n) % 18446744073709551616 := by omega
    have e : plW (m, s) (n, s) = (m + n, s) := by
      show (bif s == s then (m + n, s) else _) = _
      rw [beq_self_eq_true]; rfl
    rw [e]
    show AC _ _ [.agg [U (m / 18446744073709551616), U (m % 18446744073709551616), B s], .agg [U (n / 18446744073709551616), U (n % 18446744073709551616), B s]] (.agg [U ((m + n) / 18446744073709551616), U ((m + n) % 18446744073709551616), B s])
    rw [← e1, ← e2]
    have c1 : (m % 18446744073709551616 + n % 18446744073709551616 + 0) / 18446744073709551616 ≤ 1 := by omega
    clear e1 e2 e h
    cases s
    all_goals
      refine ac_body Tryz.func72 rfl (by kernel_rfl) fun w0 ok => ?_; show AWp _ (ctx0 w0 ok _) _ (ARet _ _ _) (entry _)
      (repeat' (first | (with_reducible first | intro hg | refine mv (by constructor) ?_) | ((with_reducible first | refine zR ?_ ?_ | refine zW mixed ?_ ?_); exact kr) | ((with_reducible apply zK); exact rfl; exact tf) | ((with_reducible apply zCD); exact rfl) | ((with_reducible apply zCN); exact rfl) | ((with_reducible apply zC); exact rfl) | ((with_reducible refine zX ?_ ?_); exact rfl) | ((with_reducible refine zE (And.intro ?_ ?_)); exact kr) | (with_reducible refine zE ?_) | ((with_reducible apply zP); (first | exact o_nat3 (add64_N _ _ 0 (by decide)) rfl rfl rfl | exact o_nat3 (add64_N _ _ _ (by exact c1)) rfl rfl rfl | exact o_eqlB rfl rfl | exact dp)) | ((with_reducible apply zN); exact dn) | ((with_reducible apply zA); exact da) | ((with_reducible apply zS); exact ds) | ((with_reducible apply zY); exact rfl; exact rfl; exact tf) | ((with_reducible apply zG); exact rfl; exact rfl; exact tf) | ((with_reducible apply zU); exact rfl; exact rfl) | ((with_reducible apply zD); exact rfl; exact rfl) | ((with_reducible apply zB); exact rfl; exact rfl)))
      ((with_reducible first | apply q_retR | apply q_retN); exact rl)
      rfl
  have hl := isLess_A (m, s) (n, t)
  have hst' : (s == t) = false := beq_false_of_ne hst
  by_cases hmn : m < n
  · have hl : AC Tryz.prog 117 [WV (m, s), WV (n, t)] (B true) := by rw [← decide_eq_true hmn]; exact hl
    have e : plW (m, s) (n, t) = (n - m, t) := by
      show (bif s == t then (m + n, s) else bif decide (m < n) then (n - m, t) else (m - n, s)) = _
      rw [hst', decide_eq_true hmn]; rfl
    have e1 := sub_hi n m (by omega) (by omega)
    have e2 : (n % 18446744073709551616 + 18446744073709551616 - m % 18446744073709551616 - 0) % 18446744073709551616 = (n - m) % 18446744073709551616 := by omega
    have c1 : (if n % 18446744073709551616 < m % 18446744073709551616 + 0 then 1 else 0) ≤ 1 := by split <;> omega
    rw [e]
    show AC _ _ _ (.agg [U ((n - m) / 18446744073709551616), U ((n - m) % 18446744073709551616), B t])
    rw [← e1, ← e2]
    clear e1 e2 e h
    cases s <;> cases t
    all_goals first | exact absurd rfl hst | skip
    all_goals
      refine ac_body Tryz.func72 rfl (by kernel_rfl) fun w0 ok => ?_; show AWp _ (ctx0 w0 ok _) _ (ARet _ _ _) (entry _)
      (repeat' (first | (with_reducible first | intro hg | refine mv (by constructor) ?_) | ((with_reducible first | refine zR ?_ ?_ | refine zW mixed ?_ ?_); exact kr) | ((with_reducible apply zK); exact rfl; exact tf) | ((with_reducible apply zCD); exact rfl) | ((with_reducible apply zCN); exact rfl) | ((with_reducible apply zC); exact rfl) | ((with_reducible refine zX ?_ ?_); exact rfl) | ((with_reducible refine zE (And.intro ?_ ?_)); exact kr) | (with_reducible refine zE ?_) | ((with_reducible apply zP); (first | exact o_nat3 (sub64_N _ _ 0 (by decide)) rfl rfl rfl | exact o_nat3 (sub64_N _ _ _ (by exact c1)) rfl rfl rfl | exact o_eqlB rfl rfl | exact dp | exact oc rfl (hl))) | ((with_reducible apply zN); exact dn) | ((with_reducible apply zA); exact da) | ((with_reducible apply zS); exact ds) | ((with_reducible apply zY); exact rfl; exact rfl; exact tf) | ((with_reducible apply zG); exact rfl; exact rfl; exact tf) | ((with_reducible apply zU); exact rfl; exact rfl) | ((with_reducible apply zD); exact rfl; exact rfl) | ((with_reducible apply zB); exact rfl; exact rfl)))
      ((with_reducible first | apply q_retR | apply q_retN); exact rl)
      rfl
  · have hl : AC Tryz.prog 117 [WV (m, s), WV (n, t)] (B false) := by rw [← decide_eq_false hmn]; exact hl
    have e : plW (m, s) (n, t) = (m - n, s) := by
      show (bif s == t then (m + n, s) else bif decide (m < n) then (n - m, t) else (m - n, s)) = _
      rw [hst', decide_eq_false hmn]; rfl
    have e1 := sub_hi m n (by omega) (by omega)
    have e2 : (m % 18446744073709551616 + 18446744073709551616 - n % 18446744073709551616 - 0) % 18446744073709551616 = (m - n) % 18446744073709551616 := by omega
    have c1 : (if m % 18446744073709551616 < n % 18446744073709551616 + 0 then 1 else 0) ≤ 1 := by split <;> omega
    rw [e]
    show AC _ _ _ (.agg [U ((m - n) / 18446744073709551616), U ((m - n) % 18446744073709551616), B s])
    rw [← e1, ← e2]
    clear e1 e2 e h
    cases s <;> cases t
    all_goals first | exact absurd rfl hst | skip
    all_goals
      refine ac_body Tryz.func72 rfl (by kernel_rfl) fun w0 ok => ?_; show AWp _ (ctx0 w0 ok _) _ (ARet _ _ _) (entry _)
      (repeat' (first | (with_reducible first | intro hg | refine mv (by constructor) ?_) | ((with_reducible first | refine zR ?_ ?_ | refine zW mixed ?_ ?_); exact kr) | ((with_reducible apply zK); exact rfl; exact tf) | ((with_reducible apply zCD); exact rfl) | ((with_reducible apply zCN); exact rfl) | ((with_reducible apply zC); exact rfl) | ((with_reducible refine zX ?_ ?_); exact rfl) | ((with_reducible refine zE (And.intro ?_ ?_)); exact kr) | (with_reducible refine zE ?_) | ((with_reducible apply zP); (first | exact o_nat3 (sub64_N _ _ 0 (by decide)) rfl rfl rfl | exact o_nat3 (sub64_N _ _ _ (by exact c1)) rfl rfl rfl | exact o_eqlB rfl rfl | exact dp | exact oc rfl (hl))) | ((with_reducible apply zN); exact dn) | ((with_reducible apply zA); exact da) | ((with_reducible apply zS); exact ds) | ((with_reducible apply zY); exact rfl; exact rfl; exact tf) | ((with_reducible apply zG); exact rfl; exact rfl; exact tf) | ((with_reducible apply zU); exact rfl; exact rfl) | ((with_reducible apply zD); exact rfl; exact rfl) | ((with_reducible apply zB); exact rfl; exact rfl)))
      ((with_reducible first | apply q_retR | apply q_retN); exact rl)
      rfl

end Go.Proofs.YtfcfmpdpjmbcnaaGreatDoor
