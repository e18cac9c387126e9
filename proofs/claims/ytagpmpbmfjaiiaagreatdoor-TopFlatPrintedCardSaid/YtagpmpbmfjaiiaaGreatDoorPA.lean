/- Merged: XPj XPk XPl XPm XPo XPn. -/
import Derived.Test.YtagpmpbmfjaiiaaGreatDoorPb
import Derived.Test.YtagpmpbmfjaiiaaGreatDoorPB
set_option linter.unusedVariables false
set_option linter.unusedSimpArgs false
/- Operations on bits. -/
namespace Go.Proofs.YtagpmpbmfjaiiaaGreatDoor
open Go.RowKit
set_option maxRecDepth 20000

theorem bv_nat {a : Nat} (h : a < 4611686018427387904) : (BitVec.ofInt 64 (a : Int)).toNat = a := by
  rw [BitVec.ofInt_natCast, BitVec.toNat_ofNat]
  exact Nat.mod_eq_of_lt (by omega)
theorem wrap_nat {a : Nat} (h : a < 4611686018427387904) : IntKind.i64.wrap (a : Int) = a := wr (by omega)
section
variable {P : Program} {s : AS} {dst : Option Tmp} {ty : TypeId} {ps : String} {af : Array Edge} {t t' : TypeId} {x y : Operand} {a b : Int}
theorem o_shl {n : Nat} (hx : s.ev x = .d (.val (.int .i64 a))) (hy : s.ev y = .d (.val (.int .i64 (n : Int)))) (hn : n < 64) {r : Int} (hr : IntKind.i64.wrap (a * 2 ^ n) = r) (gd : Option (Nat × Bool)) : Does P ⟨dst, .binOp .shl t x y t', ty, ps, af, gd⟩ s [] (.put (.d (.val (.int .i64 r)))) :=
  does_bin hx hy (bin_run fun w => by
    subst hr
    have h1 : ¬ ((n : Int) < 0) := by omega
    have h2 : min n IntKind.i64.bits = n := Nat.min_eq_left (by show n ≤ 64; omega)
    simp only [binOp, Op.shift, h1, if_false, Int.toNat_natCast, h2, Sem.run_pure])
theorem o_shr {n : Nat} (hx : s.ev x = .d (.val (.int .i64 a))) (hy : s.ev y = .d (.val (.int .i64 (n : Int)))) (hn : n < 64) {r : Int} (hr : a.fdiv (2 ^ n) = r) (gd : Option (Nat × Bool)) : Does P ⟨dst, .binOp .shr t x y t', ty, ps, af, gd⟩ s [] (.put (.d (.val (.int .i64 r)))) :=
  does_bin hx hy (bin_run fun w => by
    subst hr
    have h1 : ¬ ((n : Int) < 0) := by omega
    have h2 : min n IntKind.i64.bits = n := Nat.min_eq_left (by show n ≤ 64; omega)
    simp only [binOp, Op.shift, h1, if_false, Int.toNat_natCast, h2, Sem.run_pure])
theorem o_orN {a b : Nat} (hx : s.ev x = .d (.val (.int .i64 (a : Int)))) (hy : s.ev y = .d (.val (.int .i64 (b : Int)))) (ha : a < 4611686018427387904) (hb : b < 4611686018427387904) (gd : Option (Nat × Bool)) : Does P ⟨dst, .binOp .or t x y t', ty, ps, af, gd⟩ s [] (.put (.d (.val (.int .i64 ((a ||| b : Nat) : Int))))) :=
  does_bin hx hy (bin_run fun w => by
    have h1 : (BitVec.ofInt 64 (a : Int) ||| BitVec.ofInt 64 (b : Int)).toNat = a ||| b := by rw [BitVec.toNat_or, bv_nat ha, bv_nat hb]
    have h2 : a ||| b < 4611686018427387904 := Nat.or_lt_two_pow (n := 62) ha hb
    show (Op.intBits .or .i64 a b).run P w = _
    simp only [Op.intBits, Sem.run_pure]
    show Result.ok (Value.int .i64 (IntKind.i64.wrap ((BitVec.ofInt 64 (a : Int) ||| BitVec.ofInt 64 (b : Int)).toNat : Int))) w = _
    rw [h1, wrap_nat h2])
theorem o_andN {a b : Nat} (hx : s.ev x = .d (.val (.int .i64 (a : Int)))) (hy : s.ev y = .d (.val (.int .i64 (b : Int)))) (ha : a < 4611686018427387904) (hb : b < 4611686018427387904) (gd : Option (Nat × Bool)) : Does P ⟨dst, .binOp .and t x y t', ty, ps, af, gd⟩ s [] (.put (.d (.val (.int .i64 ((a &&& b : Nat) : Int))))) :=
  does_bin hx hy (bin_run fun w => by
    have h1 : (BitVec.ofInt 64 (a : Int) &&& BitVec.ofInt 64 (b : Int)).toNat = a &&& b := by rw [BitVec.toNat_and, bv_nat ha, bv_nat hb]
    have h2 : a &&& b < 4611686018427387904 := Nat.lt_of_le_of_lt Nat.and_le_left ha
    show (Op.intBits .and .i64 a b).run P w = _
    simp only [Op.intBits, Sem.run_pure]
    show Result.ok (Value.int .i64 (IntKind.i64.wrap ((BitVec.ofInt 64 (a : Int) &&& BitVec.ofInt 64 (b : Int)).toNat : Int))) w = _
    rw [h1, wrap_nat h2])
/-- a without the bits of b. -/
def bitOff (a b : Nat) : Nat := (BitVec.ofNat 64 a &&& ~~~BitVec.ofNat 64 b).toNat
theorem bitOff_le {a b : Nat} (ha : a < 4611686018427387904) : bitOff a b ≤ a := by
  unfold bitOff
  rw [BitVec.toNat_and, BitVec.toNat_ofNat, Nat.mod_eq_of_lt (show a < 2 ^ 64 by omega)]
  exact Nat.and_le_left
theorem o_andNotN {a b : Nat} (hx : s.ev x = .d (.val (.int .i64 (a : Int)))) (hy : s.ev y = .d (.val (.int .i64 (b : Int)))) (ha : a < 4611686018427387904) (gd : Option (Nat × Bool)) : Does P ⟨dst, .binOp .andNot t x y t', ty, ps, af, gd⟩ s [] (.put (.d (.val (.int .i64 (bitOff a b : Nat))))) :=
  does_bin hx hy (bin_run fun w => by
    have h1 : (BitVec.ofInt 64 (a : Int) &&& ~~~BitVec.ofInt 64 (b : Int)).toNat = bitOff a b := by rw [BitVec.ofInt_natCast, BitVec.ofInt_natCast]; rfl
    have h2 : bitOff a b < 4611686018427387904 := Nat.lt_of_le_of_lt (bitOff_le ha) ha
    show (Op.intBits .andNot .i64 a b).run P w = _
    simp only [Op.intBits, Sem.run_pure]
    show Result.ok (Value.int .i64 (IntKind.i64.wrap ((BitVec.ofInt 64 (a : Int) &&& ~~~BitVec.ofInt 64 (b : Int)).toNat : Int))) w = _
    rw [h1, wrap_nat h2])
end

end Go.Proofs.YtagpmpbmfjaiiaaGreatDoor

/- Sets of positions. -/
namespace Go.Proofs.YtagpmpbmfjaiiaaGreatDoor
open Go.RowKit
set_option maxRecDepth 20000
set_option maxHeartbeats 8000000

theorem pow_lt {k : Nat} (hk : k < 62) : 2 ^ k < 4611686018427387904 := Nat.pow_lt_pow_right (a := 2) (n := 62) (by decide) hk
theorem shl1 {k : Nat} (hk : k < 62) : IntKind.i64.wrap (1 * 2 ^ k) = ((2 ^ k : Nat) : Int) := by
  rw [Int.one_mul, show (2 : Int) ^ k = ((2 ^ k : Nat) : Int) by simp]
  exact wrap_nat (pow_lt hk)
def keptTo (T : List Int) (A : List Act3) (xs : List Int) (m : Int) : Nat → Nat
  | 0 => 0
  | k + 1 => bif decide (((devP T A xs k).natAbs : Int) ≤ m) then keptTo T A xs m k ||| 2 ^ k else keptTo T A xs m k
theorem keptTo_lt {T : List Int} {A : List Act3} {xs : List Int} {m : Int} : ∀ k, keptTo T A xs m k < 2 ^ k
  | 0 => by simp [keptTo]
  | k + 1 => by
    have h := keptTo_lt (T := T) (A := A) (xs := xs) (m := m) k
    have h2 : 2 ^ k < 2 ^ (k + 1) := Nat.pow_lt_pow_right (by decide) (by omega)
    unfold keptTo
    cases decide (((devP T A xs k).natAbs : Int) ≤ m)
    · show keptTo T A xs m k < _; omega
    · exact Nat.or_lt_two_pow (by omega) h2
theorem kept_A (T : List Int) (A : List Act3) (xs : List Int) (m : Int) (h : RulOk T A) (hs : SetOk A xs) : AC Tryz.prog 85 [rulV T A, isl xs, I m] (I (keptTo T A xs m T.length : Nat)) := by
  have ht9 := h.t9
  have ha3 := h.a3
  refine ac_body Tryz.func85 rfl (by kernel_rfl) fun w0 ok => ?_; show AWp _ (ctx0 w0 ok _) _ (ARet _ _ _) (entry _)
  (repeat' (first | (with_reducible first | intro hg | refine mv (by constructor) ?_) | ((with_reducible first | refine zR ?_ ?_ | refine zW mixed ?_ ?_); exact kr) | ((with_reducible apply zK); exact rfl; exact tf) | ((with_reducible apply zCD); exact rfl) | ((with_reducible apply zCN); exact rfl) | ((with_reducible apply zC); exact rfl) | ((with_reducible refine zX ?_ ?_); exact rfl) | ((with_reducible refine zE (And.intro ?_ ?_)); exact kr) | (with_reducible refine zE ?_) | ((with_reducible apply zP); exact dp) | ((with_reducible apply zN); exact dn) | ((with_reducible apply zA); exact da) | ((with_reducible apply zS); exact ds) | ((with_reducible apply zY); exact rfl; exact rfl; exact tf) | ((with_reducible apply zG); exact rfl; exact rfl; exact tf) | ((with_reducible apply zU); exact rfl; exact rfl) | ((with_reducible apply zD); exact rfl; exact rfl) | ((with_reducible apply zB); exact rfl; exact rfl)))
  refine awp_loopL (α := Nat) (fun k => [(1, .d (isl xs)), (2, .d (I m)), (3, .ptr 3 0), (7, .d (I (keptTo T A xs m k : Nat))), (12, .d (I T.length)), (13, .d (I k))]) (fun _ => [(3, ⟨116, rulC T A⟩)]) (fun k => k ≤ T.length) (fun k => T.length - k) 0 (Nat.zero_le _) (And.intro rfl (And.intro rfl (And.intro rfl (And.intro rfl (And.intro rfl (And.intro rfl trivial)))))) (And.intro rfl trivial) fun k hk => ?_
  by_cases hlt : k < T.length
  · have hb2 := devTo_bnd h hs hlt A.length (Nat.le_refl _)
    have hdv := deviation_A T A xs k h hs hlt
    have hsz := size_A (devP T A xs k) ⟨by unfold devP; omega, by unfold devP; omega⟩
    have hkl := keptTo_lt (T := T) (A := A) (xs := xs) (m := m) k
    have hpk := pow_lt (k := k) (by omega)
    by_cases hc : ((devP T A xs k).natAbs : Int) ≤ m
    · have hn : keptTo T A xs m (k + 1) = keptTo T A xs m k ||| 2 ^ k := by
        show (bif decide _ then _ else _) = _
        rw [decide_eq_true hc]; rfl
      (repeat' (first | (with_reducible first | intro hg | refine mv (by constructor) ?_) | ((with_reducible first | refine zR ?_ ?_ | refine zW mixed ?_ ?_); exact kr) | ((with_reducible apply zK); exact rfl; exact tf) | ((with_reducible apply zCD); exact rfl) | ((with_reducible apply zCN); exact rfl) | ((with_reducible apply zC); exact rfl) | ((with_reducible refine zX ?_ ?_); exact rfl) | ((with_reducible refine zE (And.intro ?_ ?_)); exact kr) | (with_reducible refine zE ?_) | ((with_reducible apply zP); (first | exact o_shl (n := k) rfl rfl (by omega) (shl1 (by omega)) | exact o_orN rfl rfl (by omega) hpk | exact dp | exact oc rfl (hdv) | exact oc rfl (hsz))) | ((with_reducible apply zN); exact dn) | ((with_reducible apply zA); exact da) | ((with_reducible apply zS); exact ds) | ((with_reducible apply zY); exact rfl; exact rfl; exact tf) | ((with_reducible apply zG); exact rfl; exact rfl; exact tf) | ((with_reducible apply zU); exact rfl; exact rfl) | ((with_reducible apply zD); exact rfl; exact rfl) | ((with_reducible apply zB); exact rfl; exact rfl)))
      exact ⟨k + 1, hlt, by omega, (And.intro rfl (And.intro rfl (And.intro rfl (And.intro (congrArg (fun n : Nat => AV.d (I n)) hn.symm) (And.intro (rfl) (And.intro (rfl) trivial)))))), (And.intro rfl trivial)⟩
    · have hn : keptTo T A xs m (k + 1) = keptTo T A xs m k := by
        show (bif decide _ then _ else _) = _
        rw [decide_eq_false hc]; rfl
      (repeat' (first | (with_reducible first | intro hg | refine mv (by constructor) ?_) | ((with_reducible first | refine zR ?_ ?_ | refine zW mixed ?_ ?_); exact kr) | ((with_reducible apply zK); exact rfl; exact tf) | ((with_reducible apply zCD); exact rfl) | ((with_reducible apply zCN); exact rfl) | ((with_reducible apply zC); exact rfl) | ((with_reducible refine zX ?_ ?_); exact rfl) | ((with_reducible refine zE (And.intro ?_ ?_)); exact kr) | (with_reducible refine zE ?_) | ((with_reducible apply zP); (first | exact dp | exact oc rfl (hdv) | exact oc rfl (hsz))) | ((with_reducible apply zN); exact dn) | ((with_reducible apply zA); exact da) | ((with_reducible apply zS); exact ds) | ((with_reducible apply zY); exact rfl; exact rfl; exact tf) | ((with_reducible apply zG); exact rfl; exact rfl; exact tf) | ((with_reducible apply zU); exact rfl; exact rfl) | ((with_reducible apply zD); exact rfl; exact rfl) | ((with_reducible apply zB); exact rfl; exact rfl)))
      exact ⟨k + 1, hlt, by omega, (And.intro rfl (And.intro rfl (And.intro rfl (And.intro (congrArg (fun n : Nat => AV.d (I n)) hn.symm) (And.intro (rfl) (And.intro (rfl) trivial)))))), (And.intro rfl trivial)⟩
  · (repeat' (first | (with_reducible first | intro hg | refine mv (by constructor) ?_) | ((with_reducible first | refine zR ?_ ?_ | refine zW mixed ?_ ?_); exact kr) | ((with_reducible apply zK); exact rfl; exact tf) | ((with_reducible apply zCD); exact rfl) | ((with_reducible apply zCN); exact rfl) | ((with_reducible apply zC); exact rfl) | ((with_reducible refine zX ?_ ?_); exact rfl) | ((with_reducible refine zE (And.intro ?_ ?_)); exact kr) | (with_reducible refine zE ?_) | ((with_reducible apply zP); exact dp) | ((with_reducible apply zN); exact dn) | ((with_reducible apply zA); exact da) | ((with_reducible apply zS); exact ds) | ((with_reducible apply zY); exact rfl; exact rfl; exact tf) | ((with_reducible apply zG); exact rfl; exact rfl; exact tf) | ((with_reducible apply zU); exact rfl; exact rfl) | ((with_reducible apply zD); exact rfl; exact rfl) | ((with_reducible apply zB); exact rfl; exact rfl)))
    ((with_reducible first | apply q_retR | apply q_retN); exact rl)
    exact rt_int (by rw [show k = T.length by omega])
theorem everywhere_A (T : List Int) (A : List Act3) (h : RulOk T A) : AC Tryz.prog 86 [rulV T A] (I ((2 ^ T.length : Nat) - 1)) := by
  have ht9 := h.t9
  have hp := pow_lt (k := T.length) (by omega)
  have hsh := shl1 (k := T.length) (by omega)
  obtain ⟨N, hN⟩ : ∃ N, N = 2 ^ T.length := ⟨_, rfl⟩
  rw [← hN] at hp hsh ⊢
  refine ac_body Tryz.func86 rfl (by kernel_rfl) fun w0 ok => ?_; show AWp _ (ctx0 w0 ok _) _ (ARet _ _ _) (entry _)
  (repeat' (first | (with_reducible first | intro hg | refine mv (by constructor) ?_) | ((with_reducible first | refine zR ?_ ?_ | refine zW mixed ?_ ?_); exact kr) | ((with_reducible apply zK); exact rfl; exact tf) | ((with_reducible apply zCD); exact rfl) | ((with_reducible apply zCN); exact rfl) | ((with_reducible apply zC); exact rfl) | ((with_reducible refine zX ?_ ?_); exact rfl) | ((with_reducible refine zE (And.intro ?_ ?_)); exact kr) | (with_reducible refine zE ?_) | ((with_reducible apply zP); (first | exact o_shl (n := T.length) rfl rfl (by omega) hsh | exact dp)) | ((with_reducible apply zN); exact dn) | ((with_reducible apply zA); exact da) | ((with_reducible apply zS); exact ds) | ((with_reducible apply zY); exact rfl; exact rfl; exact tf) | ((with_reducible apply zG); exact rfl; exact rfl; exact tf) | ((with_reducible apply zU); exact rfl; exact rfl) | ((with_reducible apply zD); exact rfl; exact rfl) | ((with_reducible apply zB); exact rfl; exact rfl)))
  ((with_reducible first | apply q_retR | apply q_retN); exact rl)
  rfl

/-- The positions of a set below k. -/
def posTo (s : Nat) : Nat → List Int
  | 0 => []
  | k + 1 => bif decide ((((s / 2 ^ k) &&& 1 : Nat) : Int) = 1) then posTo s k ++ [(k : Int)] else posTo s k
theorem posTo_len (s : Nat) : ∀ k, (posTo s k).length ≤ k
  | 0 => by simp [posTo]
  | k + 1 => by
    have := posTo_len s k
    unfold posTo
    cases decide ((((s / 2 ^ k) &&& 1 : Nat) : Int) = 1)
    · show (posTo s k).length ≤ _; omega
    · show (posTo s k ++ [(k : Int)]).length ≤ _; simp; omega
theorem shrN (s k : Nat) : (s : Int).fdiv (2 ^ k) = ((s / 2 ^ k : Nat) : Int) := by
  rw [show (2 : Int) ^ k = ((2 ^ k : Nat) : Int) by simp]
  rw [Int.fdiv_eq_ediv_of_nonneg _ (Int.natCast_nonneg _)]
  simp
theorem positions_A (s : Nat) (hs : s < 1000) (hne : posTo s 9 ≠ []) : AC Tryz.prog 87 [I s] (isl (posTo s 9)) := by
  refine ac_body Tryz.func87 rfl (by kernel_rfl) fun w0 ok => ?_; show AWp _ (ctx0 w0 ok _) _ (ARet _ _ _) (entry _)
  (repeat' (first | (with_reducible first | intro hg | refine mv (by constructor) ?_) | ((with_reducible first | refine zR ?_ ?_ | refine zW mixed ?_ ?_); exact kr) | ((with_reducible apply zK); exact rfl; exact tf) | ((with_reducible apply zCD); exact rfl) | ((with_reducible apply zCN); exact rfl) | ((with_reducible apply zC); exact rfl) | ((with_reducible refine zX ?_ ?_); exact rfl) | ((with_reducible refine zE (And.intro ?_ ?_)); exact kr) | (with_reducible refine zE ?_) | ((with_reducible apply zP); exact dp) | ((with_reducible apply zN); exact dn) | ((with_reducible apply zA); exact da) | ((with_reducible apply zS); exact ds) | ((with_reducible apply zY); exact rfl; exact rfl; exact tf) | ((with_reducible apply zG); exact rfl; exact rfl; exact tf) | ((with_reducible apply zU); exact rfl; exact rfl) | ((with_reducible apply zD); exact rfl; exact rfl) | ((with_reducible apply zB); exact rfl; exact rfl)))
  refine awp_loopL (α := Nat × List Int) (fun x => [(0, .d (I s)), (3, ownL 16 x.2), (5, .d (I x.1))]) (fun x => ownLM 16 3 x.2) (fun x => x.1 ≤ 9 ∧ x.2 = posTo s x.1) (fun x => 9 - x.1) (0, []) ⟨by decide, rfl⟩ (And.intro rfl (And.intro rfl (And.intro rfl trivial))) trivial fun ⟨k, l⟩ ⟨hk, hl⟩ => ?_
  have hl : l = posTo s k := hl
  have hk : k ≤ 9 := hk
  have hlen := posTo_len s k
  rw [← hl] at hlen
  by_cases hlt : k < 9
  · have hdv : s / 2 ^ k ≤ s := Nat.div_le_self _ _
    by_cases hc : (((s / 2 ^ k) &&& 1 : Nat) : Int) = 1
    · have hn : posTo s (k + 1) = l ++ [(k : Int)] := by
        rw [hl]; show (bif decide _ then _ else _) = _
        rw [decide_eq_true hc]; rfl
      rcases l with _ | ⟨x, l⟩
      · (repeat' (first | (with_reducible first | intro hg | refine mv (by constructor) ?_) | ((with_reducible first | refine zR ?_ ?_ | refine zW mixed ?_ ?_); exact kr) | ((with_reducible apply zK); exact rfl; exact tf) | ((with_reducible apply zCD); exact rfl) | ((with_reducible apply zCN); exact rfl) | ((with_reducible apply zC); exact rfl) | ((with_reducible refine zX ?_ ?_); exact rfl) | ((with_reducible refine zE (And.intro ?_ ?_)); exact kr) | (with_reducible refine zE ?_) | ((with_reducible apply zP); (first | exact o_shr (n := k) rfl rfl (by omega) (shrN s k) | exact o_andN (b := 1) rfl rfl (by omega) (by decide) | exact dp)) | ((with_reducible apply zN); exact dn) | ((with_reducible apply zA); exact da) | ((with_reducible apply zS); exact ds) | ((with_reducible apply zY); exact rfl; exact rfl; exact tf) | ((with_reducible apply zG); exact rfl; exact rfl; exact tf) | ((with_reducible apply zU); exact rfl; exact rfl) | ((with_reducible apply zD); exact rfl; exact rfl) | ((with_reducible apply zB); exact rfl; exact rfl)))
        exact ⟨(k + 1, [(k : Int)]), ⟨hlt, hn.symm⟩, by show 9 - (k + 1) < 9 - k; omega, (And.intro rfl (And.intro rfl (And.intro rfl trivial))), (And.intro rfl trivial)⟩
      · (repeat' (first | (with_reducible first | intro hg | refine mv (by constructor) ?_) | ((with_reducible first | refine zR ?_ ?_ | refine zW mixed ?_ ?_); exact kr) | ((with_reducible apply zK); exact rfl; exact tf) | ((with_reducible apply zCD); exact rfl) | ((with_reducible apply zCN); exact rfl) | ((with_reducible apply zC); exact rfl) | ((with_reducible refine zX ?_ ?_); exact rfl) | ((with_reducible refine zE (And.intro ?_ ?_)); exact kr) | (with_reducible refine zE ?_) | ((with_reducible apply zP); (first | exact o_shr (n := k) rfl rfl (by omega) (shrN s k) | exact o_andN (b := 1) rfl rfl (by omega) (by decide) | exact dp)) | ((with_reducible apply zN); exact dn) | ((with_reducible apply zA); exact da) | ((with_reducible apply zS); exact ds) | ((with_reducible apply zY); exact rfl; exact rfl; exact tf) | ((with_reducible apply zG); exact rfl; exact rfl; exact tf) | ((with_reducible apply zU); exact rfl; exact rfl) | ((with_reducible apply zD); exact rfl; exact rfl) | ((with_reducible apply zB); exact rfl; exact rfl)))
        exact ⟨(k + 1, x :: (l ++ [(k : Int)])), ⟨hlt, hn.symm⟩, by show 9 - (k + 1) < 9 - k; omega, (And.intro rfl (And.intro (ownL_snoc 16 x l _) (And.intro (rfl) trivial))), (And.intro (blkL_snoc _ x l _) trivial)⟩
    · have hn : posTo s (k + 1) = l := by
        rw [hl]; show (bif decide _ then _ else _) = _
        rw [decide_eq_false hc]; rfl
      rcases l with _ | ⟨x, l⟩
      · (repeat' (first | (with_reducible first | intro hg | refine mv (by constructor) ?_) | ((with_reducible first | refine zR ?_ ?_ | refine zW mixed ?_ ?_); exact kr) | ((with_reducible apply zK); exact rfl; exact tf) | ((with_reducible apply zCD); exact rfl) | ((with_reducible apply zCN); exact rfl) | ((with_reducible apply zC); exact rfl) | ((with_reducible refine zX ?_ ?_); exact rfl) | ((with_reducible refine zE (And.intro ?_ ?_)); exact kr) | (with_reducible refine zE ?_) | ((with_reducible apply zP); (first | exact o_shr (n := k) rfl rfl (by omega) (shrN s k) | exact o_andN (b := 1) rfl rfl (by omega) (by decide) | exact dp)) | ((with_reducible apply zN); exact dn) | ((with_reducible apply zA); exact da) | ((with_reducible apply zS); exact ds) | ((with_reducible apply zY); exact rfl; exact rfl; exact tf) | ((with_reducible apply zG); exact rfl; exact rfl; exact tf) | ((with_reducible apply zU); exact rfl; exact rfl) | ((with_reducible apply zD); exact rfl; exact rfl) | ((with_reducible apply zB); exact rfl; exact rfl)))
        exact ⟨(k + 1, []), ⟨hlt, hn.symm⟩, by show 9 - (k + 1) < 9 - k; omega, (And.intro rfl (And.intro rfl (And.intro rfl trivial))), trivial⟩
      · (repeat' (first | (with_reducible first | intro hg | refine mv (by constructor) ?_) | ((with_reducible first | refine zR ?_ ?_ | refine zW mixed ?_ ?_); exact kr) | ((with_reducible apply zK); exact rfl; exact tf) | ((with_reducible apply zCD); exact rfl) | ((with_reducible apply zCN); exact rfl) | ((with_reducible apply zC); exact rfl) | ((with_reducible refine zX ?_ ?_); exact rfl) | ((with_reducible refine zE (And.intro ?_ ?_)); exact kr) | (with_reducible refine zE ?_) | ((with_reducible apply zP); (first | exact o_shr (n := k) rfl rfl (by omega) (shrN s k) | exact o_andN (b := 1) rfl rfl (by omega) (by decide) | exact dp)) | ((with_reducible apply zN); exact dn) | ((with_reducible apply zA); exact da) | ((with_reducible apply zS); exact ds) | ((with_reducible apply zY); exact rfl; exact rfl; exact tf) | ((with_reducible apply zG); exact rfl; exact rfl; exact tf) | ((with_reducible apply zU); exact rfl; exact rfl) | ((with_reducible apply zD); exact rfl; exact rfl) | ((with_reducible apply zB); exact rfl; exact rfl)))
        exact ⟨(k + 1, x :: l), ⟨hlt, hn.symm⟩, by show 9 - (k + 1) < 9 - k; omega, (And.intro rfl (And.intro rfl (And.intro rfl trivial))), (And.intro rfl trivial)⟩
  · have hk9 : k = 9 := by omega
    rw [hk9] at hl
    rw [← hl] at hne ⊢
    refine awp_ownL 3 16 (t := 3) l rfl (fun x k hx => by subst hx; rfl) ?_
    (repeat' (first | (with_reducible first | intro hg | refine mv (by constructor) ?_) | ((with_reducible first | refine zR ?_ ?_ | refine zW mixed ?_ ?_); exact kr) | ((with_reducible apply zK); exact rfl; exact tf) | ((with_reducible apply zCD); exact rfl) | ((with_reducible apply zCN); exact rfl) | ((with_reducible apply zC); exact rfl) | ((with_reducible refine zX ?_ ?_); exact rfl) | ((with_reducible refine zE (And.intro ?_ ?_)); exact kr) | (with_reducible refine zE ?_) | ((with_reducible apply zP); exact dp) | ((with_reducible apply zN); exact dn) | ((with_reducible apply zA); exact da) | ((with_reducible apply zS); exact ds) | ((with_reducible apply zY); exact rfl; exact rfl; exact tf) | ((with_reducible apply zG); exact rfl; exact rfl; exact tf) | ((with_reducible apply zU); exact rfl; exact rfl) | ((with_reducible apply zD); exact rfl; exact rfl) | ((with_reducible apply zB); exact rfl; exact rfl)))
    ((with_reducible first | apply q_retR | apply q_retN); exact rl)
    rfl

end Go.Proofs.YtagpmpbmfjaiiaaGreatDoor

/- slices.Compare; tolerances. -/
namespace Go.Proofs.YtagpmpbmfjaiiaaGreatDoor
open Go.RowKit
set_option maxRecDepth 20000
set_option maxHeartbeats 8000000

theorem isNaN_A (a : Int) : AC Tryz.prog 125 [I a] (B false) := by
  refine ac_body Tryz.func125 rfl (by kernel_rfl) fun w0 ok => ?_; show AWp _ (ctx0 w0 ok _) _ (ARet _ _ _) (entry _)
  (repeat' (first | (with_reducible first | intro hg | refine mv (by constructor) ?_) | ((with_reducible first | refine zR ?_ ?_ | refine zW mixed ?_ ?_); exact kr) | ((with_reducible apply zK); exact rfl; exact tf) | ((with_reducible apply zCD); exact rfl) | ((with_reducible apply zCN); exact rfl) | ((with_reducible apply zC); exact rfl) | ((with_reducible refine zX ?_ ?_); exact rfl) | ((with_reducible refine zE (And.intro ?_ ?_)); exact kr) | (with_reducible refine zE ?_) | ((with_reducible apply zP); exact dp) | ((with_reducible apply zN); exact dn) | ((with_reducible apply zA); exact da) | ((with_reducible apply zS); exact ds) | ((with_reducible apply zY); exact rfl; exact rfl; exact tf) | ((with_reducible apply zG); exact rfl; exact rfl; exact tf) | ((with_reducible apply zU); exact rfl; exact rfl) | ((with_reducible apply zD); exact rfl; exact rfl) | ((with_reducible apply zB); exact rfl; exact rfl)))
  ((with_reducible first | apply q_retR | apply q_retN); exact rl)
  exact rt_bool (by simp)
def cmpI (a b : Int) : Int := bif decide (a < b) then -1 else bif decide (b < a) then 1 else 0
theorem cmp_A (a b : Int) : AC Tryz.prog 111 [I a, I b] (I (cmpI a b)) := by
  by_cases h1 : a < b
  · have e : cmpI a b = -1 := by unfold cmpI; rw [decide_eq_true h1]; rfl
    refine ac_body Tryz.func111 rfl (by kernel_rfl) fun w0 ok => ?_; show AWp _ (ctx0 w0 ok _) _ (ARet _ _ _) (entry _)
    (repeat' (first | (with_reducible first | intro hg | refine mv (by constructor) ?_) | ((with_reducible first | refine zR ?_ ?_ | refine zW mixed ?_ ?_); exact kr) | ((with_reducible apply zK); exact rfl; exact tf) | ((with_reducible apply zCD); exact rfl) | ((with_reducible apply zCN); exact rfl) | ((with_reducible apply zC); exact rfl) | ((with_reducible refine zX ?_ ?_); exact rfl) | ((with_reducible refine zE (And.intro ?_ ?_)); exact kr) | (with_reducible refine zE ?_) | ((with_reducible apply zP); (first | exact dp | exact oc rfl (isNaN_A _))) | ((with_reducible apply zN); exact dn) | ((with_reducible apply zA); exact da) | ((with_reducible apply zS); exact ds) | ((with_reducible apply zY); exact rfl; exact rfl; exact tf) | ((with_reducible apply zG); exact rfl; exact rfl; exact tf) | ((with_reducible apply zU); exact rfl; exact rfl) | ((with_reducible apply zD); exact rfl; exact rfl) | ((with_reducible apply zB); exact rfl; exact rfl)))
    ((with_reducible first | apply q_retR | apply q_retN); exact rl)
    exact rt_int e
  · by_cases h2 : b < a
    · have e : cmpI a b = 1 := by unfold cmpI; rw [decide_eq_false h1, decide_eq_true h2]; rfl
      refine ac_body Tryz.func111 rfl (by kernel_rfl) fun w0 ok => ?_; show AWp _ (ctx0 w0 ok _) _ (ARet _ _ _) (entry _)
      (repeat' (first | (with_reducible first | intro hg | refine mv (by constructor) ?_) | ((with_reducible first | refine zR ?_ ?_ | refine zW mixed ?_ ?_); exact kr) | ((with_reducible apply zK); exact rfl; exact tf) | ((with_reducible apply zCD); exact rfl) | ((with_reducible apply zCN); exact rfl) | ((with_reducible apply zC); exact rfl) | ((with_reducible refine zX ?_ ?_); exact rfl) | ((with_reducible refine zE (And.intro ?_ ?_)); exact kr) | (with_reducible refine zE ?_) | ((with_reducible apply zP); (first | exact dp | exact oc rfl (isNaN_A _))) | ((with_reducible apply zN); exact dn) | ((with_reducible apply zA); exact da) | ((with_reducible apply zS); exact ds) | ((with_reducible apply zY); exact rfl; exact rfl; exact tf) | ((with_reducible apply zG); exact rfl; exact rfl; exact tf) | ((with_reducible apply zU); exact rfl; exact rfl) | ((with_reducible apply zD); exact rfl; exact rfl) | ((with_reducible apply zB); exact rfl; exact rfl)))
      ((with_reducible first | apply q_retR | apply q_retN); exact rl)
      exact rt_int e
    · have e : cmpI a b = 0 := by unfold cmpI; rw [decide_eq_false h1, decide_eq_false h2]; rfl
      refine ac_body Tryz.func111 rfl (by kernel_rfl) fun w0 ok => ?_; show AWp _ (ctx0 w0 ok _) _ (ARet _ _ _) (entry _)
      (repeat' (first | (with_reducible first | intro hg | refine mv (by constructor) ?_) | ((with_reducible first | refine zR ?_ ?_ | refine zW mixed ?_ ?_); exact kr) | ((with_reducible apply zK); exact rfl; exact tf) | ((with_reducible apply zCD); exact rfl) | ((with_reducible apply zCN); exact rfl) | ((with_reducible apply zC); exact rfl) | ((with_reducible refine zX ?_ ?_); exact rfl) | ((with_reducible refine zE (And.intro ?_ ?_)); exact kr) | (with_reducible refine zE ?_) | ((with_reducible apply zP); (first | exact dp | exact oc rfl (isNaN_A _))) | ((with_reducible apply zN); exact dn) | ((with_reducible apply zA); exact da) | ((with_reducible apply zS); exact ds) | ((with_reducible apply zY); exact rfl; exact rfl; exact tf) | ((with_reducible apply zG); exact rfl; exact rfl; exact tf) | ((with_reducible apply zU); exact rfl; exact rfl) | ((with_reducible apply zD); exact rfl; exact rfl) | ((with_reducible apply zB); exact rfl; exact rfl)))
      ((with_reducible first | apply q_retR | apply q_retN); exact rl)
      exact rt_int e
theorem toleranceErr_A (m : Int) : AC Tryz.prog 110 [I m] (I (unl (inR m 0 100000) 2)) := by
  refine ac_body Tryz.func110 rfl (by kernel_rfl) fun w0 ok => ?_; show AWp _ (ctx0 w0 ok _) _ (ARet _ _ _) (entry _)
  (repeat' (first | (with_reducible first | intro hg | refine mv (by constructor) ?_) | ((with_reducible first | refine zR ?_ ?_ | refine zW mixed ?_ ?_); exact kr) | ((with_reducible apply zK); exact rfl; exact tf) | ((with_reducible apply zCD); exact rfl) | ((with_reducible apply zCN); exact rfl) | ((with_reducible apply zC); exact rfl) | ((with_reducible refine zX ?_ ?_); exact rfl) | ((with_reducible refine zE (And.intro ?_ ?_)); exact kr) | (with_reducible refine zE ?_) | ((with_reducible apply zP); (first | exact dp | exact oc rfl (within_A _ _ _) | exact oc rfl (unless_A _ _))) | ((with_reducible apply zN); exact dn) | ((with_reducible apply zA); exact da) | ((with_reducible apply zS); exact ds) | ((with_reducible apply zY); exact rfl; exact rfl; exact tf) | ((with_reducible apply zG); exact rfl; exact rfl; exact tf) | ((with_reducible apply zU); exact rfl; exact rfl) | ((with_reducible apply zD); exact rfl; exact rfl) | ((with_reducible apply zB); exact rfl; exact rfl)))
  ((with_reducible first | apply q_retR | apply q_retN); exact rl)
  rfl
theorem openTolerance_A (T : List Int) (A : List Act3) (m : Int) (hl : LenOk T A) : AC Tryz.prog 84 [rulV T A, I m] (.tuple [rulV T A, I (fst0 [(rulE T A).2, unl (inR m 0 100000) 2])]) := by
  have h1 := open_A T A hl
  refine ac_body Tryz.func84 rfl (by kernel_rfl) fun w0 ok => ?_; show AWp _ (ctx0 w0 ok _) _ (ARet _ _ _) (entry _)
  (repeat' (first | (with_reducible first | intro hg | refine mv (by constructor) ?_) | ((with_reducible first | refine zR ?_ ?_ | refine zW mixed ?_ ?_); exact kr) | ((with_reducible apply zK); exact rfl; exact tf) | ((with_reducible apply zCD); exact rfl) | ((with_reducible apply zCN); exact rfl) | ((with_reducible apply zC); exact rfl) | ((with_reducible refine zX ?_ ?_); exact rfl) | ((with_reducible refine zE (And.intro ?_ ?_)); exact kr) | (with_reducible refine zE ?_) | ((with_reducible apply zP); (first | exact dp | exact oc rfl (h1) | exact oc rfl (toleranceErr_A _) | exact oc rfl (first2_A _ _))) | ((with_reducible apply zN); exact dn) | ((with_reducible apply zA); exact da) | ((with_reducible apply zS); exact ds) | ((with_reducible apply zY); exact rfl; exact rfl; exact tf) | ((with_reducible apply zG); exact rfl; exact rfl; exact tf) | ((with_reducible apply zU); exact rfl; exact rfl) | ((with_reducible apply zD); exact rfl; exact rfl) | ((with_reducible apply zB); exact rfl; exact rfl)))
  ((with_reducible first | apply q_retR | apply q_retN); exact rl)
  rfl
/-- The order of two lists of the same length. -/
def cmpL : List Int → List Int → Int
  | x :: xs, y :: ys => bif cmpI x y == 0 then cmpL xs ys else cmpI x y
  | _, _ => 0
theorem compare_A (xs ys : List Int) (hl : xs.length = ys.length) (hm : xs.length ≤ 1000) : AC Tryz.prog 88 [isl xs, isl ys] (I (cmpL xs ys)) := by
  refine ac_body Tryz.func88 rfl (by kernel_rfl) fun w0 ok => ?_; show AWp _ (ctx0 w0 ok _) _ (ARet _ _ _) (entry _)
  (repeat' (first | (with_reducible first | intro hg | refine mv (by constructor) ?_) | ((with_reducible first | refine zR ?_ ?_ | refine zW mixed ?_ ?_); exact kr) | ((with_reducible apply zK); exact rfl; exact tf) | ((with_reducible apply zCD); exact rfl) | ((with_reducible apply zCN); exact rfl) | ((with_reducible apply zC); exact rfl) | ((with_reducible refine zX ?_ ?_); exact rfl) | ((with_reducible refine zE (And.intro ?_ ?_)); exact kr) | (with_reducible refine zE ?_) | ((with_reducible apply zP); exact dp) | ((with_reducible apply zN); exact dn) | ((with_reducible apply zA); exact da) | ((with_reducible apply zS); exact ds) | ((with_reducible apply zY); exact rfl; exact rfl; exact tf) | ((with_reducible apply zG); exact rfl; exact rfl; exact tf) | ((with_reducible apply zU); exact rfl; exact rfl) | ((with_reducible apply zD); exact rfl; exact rfl) | ((with_reducible apply zB); exact rfl; exact rfl)))
  refine awp_loopL (α := Nat) (fun k => [(0, .d (isl xs)), (1, .d (isl ys)), (9, .d (isl xs)), (10, .d (I xs.length)), (11, .d (I k))]) (fun _ => []) (fun k => k ≤ xs.length ∧ cmpL (xs.drop k) (ys.drop k) = cmpL xs ys) (fun k => xs.length - k) 0 ⟨Nat.zero_le _, rfl⟩ (And.intro rfl (And.intro rfl (And.intro rfl (And.intro rfl (And.intro rfl trivial))))) trivial fun k ⟨hk, hd⟩ => ?_
  by_cases hlt : k < xs.length
  · have hlt2 : k < ys.length := by omega
    rw [drop_getD hlt, drop_getD hlt2] at hd
    have hc := cmp_A (nth xs k) (nth ys k)
    by_cases hz : cmpI (nth xs k) (nth ys k) = 0
    · rw [hz] at hc
      (repeat' (first | (with_reducible first | intro hg | refine mv (by constructor) ?_) | ((with_reducible first | refine zR ?_ ?_ | refine zW mixed ?_ ?_); exact kr) | ((with_reducible apply zK); exact rfl; exact tf) | ((with_reducible apply zCD); exact rfl) | ((with_reducible apply zCN); exact rfl) | ((with_reducible apply zC); exact rfl) | ((with_reducible refine zX ?_ ?_); exact rfl) | ((with_reducible refine zE (And.intro ?_ ?_)); exact kr) | (with_reducible refine zE ?_) | ((with_reducible apply zP); (first | exact o_indexI (j := k) (xs := xs) rfl rfl (by omega) rfl | exact o_indexI (j := k) (xs := ys) rfl rfl (by omega) rfl | exact dp | exact oc rfl (hc))) | ((with_reducible apply zN); exact dn) | ((with_reducible apply zA); exact da) | ((with_reducible apply zS); exact ds) | ((with_reducible apply zY); exact rfl; exact rfl; exact tf) | ((with_reducible apply zG); exact rfl; exact rfl; exact tf) | ((with_reducible apply zU); exact rfl; exact rfl) | ((with_reducible apply zD); exact rfl; exact rfl) | ((with_reducible apply zB); exact rfl; exact rfl)))
      refine ⟨k + 1, ⟨hlt, ?_⟩, by omega, (And.intro rfl (And.intro rfl (And.intro rfl (And.intro rfl (And.intro rfl trivial))))), trivial⟩
      rw [← hd]
      show _ = bif cmpI (nth xs k) (nth ys k) == 0 then _ else _
      rw [hz]; rfl
    · (repeat' (first | (with_reducible first | intro hg | refine mv (by constructor) ?_) | ((with_reducible first | refine zR ?_ ?_ | refine zW mixed ?_ ?_); exact kr) | ((with_reducible apply zK); exact rfl; exact tf) | ((with_reducible apply zCD); exact rfl) | ((with_reducible apply zCN); exact rfl) | ((with_reducible apply zC); exact rfl) | ((with_reducible refine zX ?_ ?_); exact rfl) | ((with_reducible refine zE (And.intro ?_ ?_)); exact kr) | (with_reducible refine zE ?_) | ((with_reducible apply zP); (first | exact o_indexI (j := k) (xs := xs) rfl rfl (by omega) rfl | exact o_indexI (j := k) (xs := ys) rfl rfl (by omega) rfl | exact dp | exact oc rfl (hc))) | ((with_reducible apply zN); exact dn) | ((with_reducible apply zA); exact da) | ((with_reducible apply zS); exact ds) | ((with_reducible apply zY); exact rfl; exact rfl; exact tf) | ((with_reducible apply zG); exact rfl; exact rfl; exact tf) | ((with_reducible apply zU); exact rfl; exact rfl) | ((with_reducible apply zD); exact rfl; exact rfl) | ((with_reducible apply zB); exact rfl; exact rfl)))
      ((with_reducible first | apply q_retR | apply q_retN); exact rl)
      refine rt_int ?_
      rw [← hd]
      show (bif cmpI (nth xs k) (nth ys k) == 0 then _ else _) = _
      rw [beq_eq_false_iff_ne.2 hz]; rfl
  · (repeat' (first | (with_reducible first | intro hg | refine mv (by constructor) ?_) | ((with_reducible first | refine zR ?_ ?_ | refine zW mixed ?_ ?_); exact kr) | ((with_reducible apply zK); exact rfl; exact tf) | ((with_reducible apply zCD); exact rfl) | ((with_reducible apply zCN); exact rfl) | ((with_reducible apply zC); exact rfl) | ((with_reducible refine zX ?_ ?_); exact rfl) | ((with_reducible refine zE (And.intro ?_ ?_)); exact kr) | (with_reducible refine zE ?_) | ((with_reducible apply zP); exact dp) | ((with_reducible apply zN); exact dn) | ((with_reducible apply zA); exact da) | ((with_reducible apply zS); exact ds) | ((with_reducible apply zY); exact rfl; exact rfl; exact tf) | ((with_reducible apply zG); exact rfl; exact rfl; exact tf) | ((with_reducible apply zU); exact rfl; exact rfl) | ((with_reducible apply zD); exact rfl; exact rfl) | ((with_reducible apply zB); exact rfl; exact rfl)))
    ((with_reducible first | apply q_retR | apply q_retN); exact rl)
    refine rt_int ?_
    rw [← hd, List.drop_of_length_le (by omega)]; rfl

end Go.Proofs.YtagpmpbmfjaiiaaGreatDoor

/- Arrays of booleans. -/
namespace Go.Proofs.YtagpmpbmfjaiiaaGreatDoor
open Go.RowKit
set_option maxRecDepth 20000

/-- The cells of an array of booleans. -/
def bls (f : Nat → Bool) (n : Nat) : List DV := (List.range n).map fun i => B (f i)
def updB (f : Nat → Bool) (o : Nat) (v : Bool) (i : Nat) : Bool := bif Nat.beq i o then v else f i
theorem bls_len (f : Nat → Bool) (n : Nat) : (bls f n).length = n := by simp [bls]
theorem bls_get (f : Nat → Bool) {n o : Nat} (h : o < n) : ((bls f n).drop o)[0]? = some (B (f o)) := by
  unfold bls
  rw [List.getElem?_drop, List.getElem?_map, List.getElem?_range (by omega)]
  rfl
theorem bls_set (f : Nat → Bool) {n o : Nat} (h : o < n) (v : Bool) : spl (bls f n) o [B v] = bls (updB f o v) n := by
  have hl : (spl (bls f n) o [B v]).length = n := by simp [spl, bls]; omega
  apply List.ext_getElem?
  intro i
  unfold spl
  by_cases h1 : i < o
  · rw [List.append_assoc, List.getElem?_append_left (by simp [bls]; omega), List.getElem?_take_of_lt h1]
    have hb : Nat.beq i o = false := by
      cases hb : Nat.beq i o
      · rfl
      · have := Nat.eq_of_beq_eq_true hb; omega
    have e : updB f o v i = f i := by unfold updB; rw [hb]; rfl
    unfold bls
    rw [List.getElem?_map, List.getElem?_map, List.getElem?_range (by omega)]
    show some (B (f i)) = some (B (updB f o v i))
    rw [e]
  · by_cases h2 : i = o
    · subst h2
      rw [List.append_assoc, List.getElem?_append_right (by simp [bls]; omega)]
      have e : updB f i v i = v := by unfold updB; rw [Nat.beq_refl]; rfl
      have hlen : (List.take i (bls f n)).length = i := by simp [bls]; omega
      rw [hlen, Nat.sub_self]
      unfold bls
      rw [List.getElem?_map, List.getElem?_range (by omega)]
      show some (B v) = some (B (updB f i v i))
      rw [e]
    · have hlen : (List.take o (bls f n) ++ [B v]).length = o + 1 := by simp [bls]; omega
      rw [List.getElem?_append_right (by rw [hlen]; omega), hlen, List.getElem?_drop]
      have hb : Nat.beq i o = false := by
        cases hb : Nat.beq i o
        · rfl
        · exact absurd (Nat.eq_of_beq_eq_true hb) h2
      have e : updB f o v i = f i := by unfold updB; rw [hb]; rfl
      have hi : o + [B v].length + (i - (o + 1)) = i := by simp; omega
      rw [hi]
      unfold bls
      rw [List.getElem?_map, List.getElem?_map]
      cases hr : (List.range n)[i]? with
      | none => rfl
      | some j =>
        have hj : j = i := by
          obtain ⟨h3, h4⟩ := List.getElem?_eq_some_iff.1 hr
          rw [List.getElem_range] at h4; exact h4.symm
        subst hj
        show some (B (f j)) = some (B (updB f o v j))
        rw [e]
section
variable {P : Program} {s : AS} {dst : Option Tmp} {ty : TypeId} {ps : String} {af : Array Edge} {t : TypeId} {x y : Operand}
theorem o_storeB {nm off n : Nat} {b : TypeId} {f : Nat → Bool} {v : Bool} [h : TyI P t false 1] (hx : s.ev x = .ptr nm off) (hm : s.mem nm = some ⟨b, bls f n⟩) (hy : s.ev y = .d (B v)) (hj : off < n) (gd : Option (Nat × Bool)) :
    Does P ⟨dst, .store t x y, ty, ps, af, gd⟩ s [nm] (.setBlk nm ⟨b, bls (updB f off v) n⟩) :=
  does_store hx hm hy rfl h.eq rfl (by show off + 1 ≤ (bls f n).length; rw [bls_len]; omega) (bls_set f hj v)
theorem o_loadB {nm off n : Nat} {b : TypeId} {f : Nat → Bool} [h : TyI P t false 1] (hx : s.ev x = .ptr nm off) (hm : s.mem nm = some ⟨b, bls f n⟩) (hj : off < n) (gd : Option (Nat × Bool)) :
    Does P ⟨dst, .load t x, ty, ps, af, gd⟩ s [nm] (.put (.d (B (f off)))) := o_load1 (h := h) hx hm (bls_get f hj) gd
end

end Go.Proofs.YtagpmpbmfjaiiaaGreatDoor

/- A slice that is not nil. -/
namespace Go.Proofs.YtagpmpbmfjaiiaaGreatDoor
open Go.RowKit
section
variable {P : Program} {s : AS} {dst : Option Tmp} {ty : TypeId} {ps : String} {af : Array Edge} {t t' : TypeId} {x y : Operand} {e : TypeId}
theorem o_nenS {A : Option Addr} {l c : Nat} [ht : UndI P t (.slice e)] (hx : s.ev x = .d (.val (.slice A l c))) (hy : s.ev y = .d (.val (.slice none 0 0))) (gd : Option (Nat × Bool)) : Does P ⟨dst, .binOp .neq t x y t', ty, ps, af, gd⟩ s [] (.put (.d (.val (.bool (!A.isNone))))) :=
  does_bin hx hy fun w => by
    have e1 : (eqGuard .neq t x y (.slice A l c) (.slice none 0 0)).run P w = .ok () w := by unfold eqGuard; rfl
    rw [Sem.run_bind, e1, Result.andThen_ok]
    simp [binOp, run_equal_slice_nil w t e A l c ht.eq]
theorem o_nenD {n : Nat} {cs : List DV} [ht : UndI P t (.slice e)] (hx : s.ev x = .d (.slice n cs)) (hne : cs ≠ []) (hy : s.ev y = .d nilV) (gd : Option (Nat × Bool)) : Does P ⟨dst, .binOp .neq t x y t', ty, ps, af, gd⟩ s [] (.put (.d (.val (.bool true)))) :=
  does_pure fun c s' φ a w hR hop => by
    have h1 := ge_d hR (hop x (by simp [Op.operands])) hx
    have h2 := ge_val hR (hop y (by simp [Op.operands])) hy
    rw [DV.rep] at h1
    obtain ⟨A, cap, h1, _, _, h3⟩ := h1
    obtain ⟨b, o, vs, rfl, _⟩ := h3 hne
    refine ⟨.bool true, ?_, (rep_val (ok := okOf c φ s') (w := w)).2 rfl⟩
    have e1 : (eqGuard .neq t x y (.slice (some ⟨b, o, none⟩) n cap) (.slice none 0 0)).run P w = .ok () w := by unfold eqGuard; rfl
    have e2 : (binOp .neq t (.slice (some ⟨b, o, none⟩) n cap) (.slice none 0 0)).run P w = .ok (.bool true) w := by simp [binOp, run_equal_slice_nil w t e _ n cap ht.eq]
    simp only [execOp, h1, h2, Sem.run_bind, e1, e2, Sem.run_pure, Result.andThen_ok]
end

end Go.Proofs.YtagpmpbmfjaiiaaGreatDoor

/- ContradictingIn (under way). -/
namespace Go.Proofs.YtagpmpbmfjaiiaaGreatDoor
open Go.RowKit
set_option maxRecDepth 20000
set_option maxHeartbeats 8000000

instance : ZroI Tryz.prog 126 (List.replicate 512 (.bool false)) := ⟨by kernel_rfl⟩
theorem bls0 (n : Nat) : (List.replicate n (Value.bool false)).map DV.val = bls (fun _ => false) n := by
  unfold bls
  apply List.ext_getElem?
  intro i
  rw [List.getElem?_map, List.getElem?_map, List.getElem?_replicate]
  by_cases h : i < n
  · rw [if_pos h, List.getElem?_range h]; rfl
  · rw [if_neg h, List.getElem?_eq_none (by simp; omega)]; rfl
/-- The sets that the first k settings keep. -/
def tog (T : List Int) (A : List Act3) (m : Int) (L : List (List Int)) (k : Nat) : Nat → Bool := (L.take k).foldl (fun f l => updB f (keptTo T A l m T.length) true) fun _ => false
theorem tog_succ {T : List Int} {A : List Act3} {m : Int} {L : List (List Int)} {k : Nat} {N : List Int} (hk : k < L.length) (h : L.getD k [] = N) : tog T A m L (k + 1) = updB (tog T A m L k) (keptTo T A N m T.length) true := by
  unfold tog
  rw [List.getD_eq_getElem?_getD, List.getElem?_eq_getElem hk] at h
  rw [List.take_add_one, List.getElem?_eq_getElem hk, List.foldl_append, show L[k] = N from h]
  rfl
/-- The sets below a set: its first i positions are left out, one at a time. -/
def innerF (f : Nat → Bool) (s : Nat) : Nat → Nat → Bool
  | 0 => f
  | i + 1 => updB (innerF f s i) (bitOff s (2 ^ i)) (innerF f s i (bitOff s (2 ^ i)) || innerF f s i s)
def outerF (f : Nat → Bool) (n e : Nat) : Nat → Nat → Bool
  | 0 => f
  | k + 1 => innerF (outerF f n e k) (e - k) n
/-- The best set, behind the set s. -/
def better (l b : List Int) : Bool := decide ((l.length : Int) < b.length) || (decide ((l.length : Int) = b.length) && decide (cmpL l b < 0))
def pickS (f : Nat → Bool) (y : Option (List Int)) (s : Nat) : Option (List Int) := bif f s then y else match y with
  | none => some (posTo s 9)
  | some b => bif better (posTo s 9) b then some (posTo s 9) else some b
def pickTo (f : Nat → Bool) : Nat → Option (List Int)
  | 0 => none
  | k + 1 => pickS f (pickTo f k) (k + 1)
def optC : Option (List Int) → DV
  | none => nilV
  | some l => isl l
/-- The sets that some settings keep. -/
def contF (T : List Int) (A : List Act3) (m : Int) (L : List (List Int)) : Nat → Bool := outerF (tog T A m L L.length) T.length (2 ^ T.length - 1) (2 ^ T.length - 1)
/-- The positions that contradict each other. -/
def contP (T : List Int) (A : List Act3) (m : Int) (L : List (List Int)) : Option (List Int) := pickTo (contF T A m L) (2 ^ T.length - 1)
theorem posTo_ne : ∀ s : Nat, s < 512 → 0 < s → posTo s 9 ≠ [] := by decide +kernel
theorem contra_A (T : List Int) (A : List Act3) (L : List (List Int)) (m : Int) (h : RulOk T A) (hL : SetsOk A L) (he : rulE T A = (0, 0)) (hm : inR m 0 100000 = true) :
    AC Tryz.prog 48 [rulV T A, I m] (.tuple [optC (contP T A m L), I (unl (contP T A m L).isSome 12)]) := by
  have ht9 := h.t9
  have hlo : LenOk T A := ⟨by omega, by have := h.a3; omega, fun a ha => by have := (h.b a ha).2.2.2.1; omega⟩
  have hop := openTolerance_A T A m hlo
  rw [he, hm] at hop
  have hev := everywhere_A T A h
  refine ac_body Tryz.func48 rfl (by kernel_rfl) fun w0 ok => ?_; show AWp _ (ctx0 w0 ok _) _ (ARet _ _ _) (entry _)
  (repeat' (first | (with_reducible first | intro hg | refine mv (by constructor) ?_) | ((with_reducible first | refine zR ?_ ?_ | refine zW mixed ?_ ?_); exact kr) | ((with_reducible apply zK); exact rfl; exact tf) | ((with_reducible apply zCD); exact rfl) | ((with_reducible apply zCN); exact rfl) | ((with_reducible apply zC); exact rfl) | ((with_reducible refine zX ?_ ?_); exact rfl) | ((with_reducible refine zE (And.intro ?_ ?_)); exact kr) | (with_reducible refine zE ?_) | ((with_reducible apply zP); (first | exact o_makeFuncB rfl rfl | exact dp | exact oc rfl (hop))) | ((with_reducible apply zN); exact dn) | ((with_reducible apply zA); exact da) | ((with_reducible apply zS); exact ds) | ((with_reducible apply zY); exact rfl; exact rfl; exact tf) | ((with_reducible apply zG); exact rfl; exact rfl; exact tf) | ((with_reducible apply zU); exact rfl; exact rfl) | ((with_reducible apply zD); exact rfl; exact rfl) | ((with_reducible apply zB); exact rfl; exact rfl)))
  refine awp_rangeFunc (psl := [26]) (bs := [rulV T A]) (caps := []) (fin := true) (xs := yas A L) (fun k (_ : Unit) => ⟨frL [(2, .ptr 2 0), (3, .ptr 3 0), (6, .ptr 6 0), (8, .ptr 8 0)], memL [(2, ⟨25, rulC T A⟩), (3, ⟨3, [I m]⟩), (6, ⟨116, rulC T A⟩), (8, ⟨126, bls (tog T A m L k) 512⟩)]⟩)
    (fun _ _ => True) () (EntI.eq (P := Tryz.prog) (f := 75)) (.fn rfl) (settings_A T A L hL.chain h.a0 h.acts) trivial (le_of (And.intro rfl (And.intro rfl (And.intro rfl (And.intro rfl trivial)))) (And.intro rfl (And.intro rfl (And.intro rfl (And.intro (congrArg (fun l => some (Blk.mk _ l)) (bls0 512)) trivial))))) (by decide) (fun d hd => by obtain ⟨l, _, rfl⟩ := List.mem_map.1 hd; rfl) (fun k y d _ hd W ok' rd ex gv => ?_) (by simp) (fun _ y _ => ?_)
  · obtain ⟨hk, rfl⟩ := yas_at hd
    have hmem : L.getD k [] ∈ L := by rw [List.getD_eq_getElem?_getD, List.getElem?_eq_getElem hk]; exact List.getElem_mem hk
    have hso := hL.ok _ hmem
    have hsucc := tog_succ (T := T) (A := A) (m := m) hk rfl
    generalize L.getD k [] = N at *
    have hNl := hso.1
    have hke := kept_A T A N m h hso
    have hkl := keptTo_lt (T := T) (A := A) (xs := N) (m := m) T.length
    have hkp : 2 ^ T.length ≤ 2 ^ 9 := Nat.pow_le_pow_right (by decide) ht9
    have hkk : keptTo T A N m T.length < 512 := by omega
    rw [show (isl N : DV) = .slice A.length (ivs N) by rw [← hNl]] at hke
    have hv : ((ivs N).drop 0).take (A.length * 1) = ivs N := by rw [List.drop_zero, List.take_of_length_le (by simp [ivs]; omega)]
    replace hke : AC Tryz.prog 85 [rulV T A, .slice A.length (((ivs N).drop 0).take (A.length * 1)), I m] (I (keptTo T A N m T.length : Nat)) := by rw [hv]; exact hke
    refine awp_cut [(26, .lsl YN 0 A.length 1), (1999999, .lsl YN 0 A.length 1), (2, .ptr 2 0), (3, .ptr 3 0), (6, .ptr 6 0), (8, .ptr 8 0), (1000002, .ptr 2 0), (1000003, .ptr 3 0), (1000006, .ptr 6 0), (1000008, .ptr 8 0)]
      [(2, ⟨25, rulC T A⟩), (3, ⟨3, [I m]⟩), (6, ⟨116, rulC T A⟩), (8, ⟨126, bls (tog T A m L k) 512⟩), (YN, ⟨3, ivs N⟩)] (And.intro rfl (And.intro rfl (And.intro rfl (And.intro rfl (And.intro rfl (And.intro rfl (And.intro rfl (And.intro rfl (And.intro rfl (And.intro rfl trivial)))))))))) (And.intro rfl (And.intro rfl (And.intro rfl (And.intro rfl (And.intro rfl trivial))))) ?_
    (repeat' (first | (with_reducible first | intro hg | refine mv (by constructor) ?_) | ((with_reducible first | refine zR ?_ ?_ | refine zW mixed ?_ ?_); exact kr) | ((with_reducible apply zK); exact rfl; exact tf) | ((with_reducible apply zCD); exact rfl) | ((with_reducible apply zCN); exact rfl) | ((with_reducible apply zC); exact rfl) | ((with_reducible refine zX ?_ ?_); exact rfl) | ((with_reducible refine zE (And.intro ?_ ?_)); exact kr) | (with_reducible refine zE ?_) | ((with_reducible apply zP); exact dp) | ((with_reducible apply zN); exact dn) | ((with_reducible apply zA); exact da) | ((with_reducible apply zS); exact ds) | ((with_reducible apply zY); exact rfl; exact rfl; exact tf) | ((with_reducible apply zG); exact rfl; exact rfl; exact tf) | ((with_reducible apply zU); exact rfl; exact rfl) | ((with_reducible apply zD); exact rfl; exact rfl) | ((with_reducible apply zB); exact rfl; exact rfl)))
    refine ⟨rfl, fun W' => ?_⟩
    (repeat' (first | (with_reducible first | intro hg | refine mv (by constructor) ?_) | ((with_reducible first | refine zR ?_ ?_ | refine zW mixed ?_ ?_); exact kr) | ((with_reducible apply zK); exact rfl; exact tf) | ((with_reducible apply zCD); exact rfl) | ((with_reducible apply zCN); exact rfl) | ((with_reducible apply zC); exact rfl) | ((with_reducible refine zX ?_ ?_); exact rfl) | ((with_reducible refine zE (And.intro ?_ ?_)); exact kr) | (with_reducible refine zE ?_) | ((with_reducible apply zP); (first | exact o_indexP (o := keptTo T A N m T.length) rfl rfl (by omega) (by omega) (by omega) | exact dp | exact oc rfl (hke))) | ((with_reducible apply zN); exact dn) | ((with_reducible apply zA); exact da) | ((with_reducible apply zS); (first | exact o_storeB rfl rfl rfl hkk | exact ds)) | ((with_reducible apply zY); exact rfl; exact rfl; exact tf) | ((with_reducible apply zG); exact rfl; exact rfl; exact tf) | ((with_reducible apply zU); exact rfl; exact rfl) | ((with_reducible apply zD); exact rfl; exact rfl) | ((with_reducible apply zB); exact rfl; exact rfl)))
    exact ⟨⟨rfl, rfl⟩, (), trivial, le_of (And.intro rfl (And.intro rfl (And.intro rfl (And.intro rfl trivial)))) (And.intro rfl (And.intro rfl (And.intro rfl (And.intro (congrArg (fun f => some (Blk.mk _ (bls f 512))) hsucc.symm) trivial))))⟩
  · have hkp : 2 ^ T.length ≤ 2 ^ 9 := Nat.pow_le_pow_right (by decide) ht9
    have hk1 : 1 ≤ 2 ^ T.length := Nat.one_le_two_pow
    obtain ⟨e, heq⟩ : ∃ e, 2 ^ T.length = e + 1 := ⟨2 ^ T.length - 1, by omega⟩
    rw [heq] at hkp hev
    rw [show ((e + 1 : Nat) : Int) - 1 = (e : Int) by omega] at hev
    (repeat' (first | (with_reducible first | intro hg | refine mv (by constructor) ?_) | ((with_reducible first | refine zR ?_ ?_ | refine zW mixed ?_ ?_); exact kr) | ((with_reducible apply zK); exact rfl; exact tf) | ((with_reducible apply zCD); exact rfl) | ((with_reducible apply zCN); exact rfl) | ((with_reducible apply zC); exact rfl) | ((with_reducible refine zX ?_ ?_); exact rfl) | ((with_reducible refine zE (And.intro ?_ ?_)); exact kr) | (with_reducible refine zE ?_) | ((with_reducible apply zP); (first | exact dp | exact oc rfl (hev))) | ((with_reducible apply zN); exact dn) | ((with_reducible apply zA); exact da) | ((with_reducible apply zS); exact ds) | ((with_reducible apply zY); exact rfl; exact rfl; exact tf) | ((with_reducible apply zG); exact rfl; exact rfl; exact tf) | ((with_reducible apply zU); exact rfl; exact rfl) | ((with_reducible apply zD); exact rfl; exact rfl) | ((with_reducible apply zB); exact rfl; exact rfl)))
    refine awp_loopL (α := Nat × (Nat → Bool)) (fun x => [(2, .ptr 2 0), (3, .ptr 3 0), (6, .ptr 6 0), (8, .ptr 8 0), (10, .d (I x.1))]) (fun x => [(2, ⟨25, rulC T A⟩), (3, ⟨3, [I m]⟩), (6, ⟨116, rulC T A⟩), (8, ⟨126, bls x.2 512⟩)])
      (fun x => x.1 ≤ e ∧ x.2 = outerF (tog T A m L (yas A L).length) T.length e (e - x.1)) (fun x => x.1) (e, tog T A m L (yas A L).length) ⟨Nat.le_refl _, by rw [Nat.sub_self]; rfl⟩ (And.intro rfl (And.intro rfl (And.intro rfl (And.intro rfl (And.intro rfl trivial))))) (And.intro rfl (And.intro rfl (And.intro rfl (And.intro rfl trivial)))) fun ⟨s, f⟩ ⟨hs, hf⟩ => ?_
    have hs : s ≤ e := hs
    have hf : f = outerF (tog T A m L (yas A L).length) T.length e (e - s) := hf
    rcases s with _ | s
    · (repeat' (first | (with_reducible first | intro hg | refine mv (by constructor) ?_) | ((with_reducible first | refine zR ?_ ?_ | refine zW mixed ?_ ?_); exact kr) | ((with_reducible apply zK); exact rfl; exact tf) | ((with_reducible apply zCD); exact rfl) | ((with_reducible apply zCN); exact rfl) | ((with_reducible apply zC); exact rfl) | ((with_reducible refine zX ?_ ?_); exact rfl) | ((with_reducible refine zE (And.intro ?_ ?_)); exact kr) | (with_reducible refine zE ?_) | ((with_reducible apply zP); exact dp) | ((with_reducible apply zN); exact dn) | ((with_reducible apply zA); exact da) | ((with_reducible apply zS); exact ds) | ((with_reducible apply zY); exact rfl; exact rfl; exact tf) | ((with_reducible apply zG); exact rfl; exact rfl; exact tf) | ((with_reducible apply zU); exact rfl; exact rfl) | ((with_reducible apply zD); exact rfl; exact rfl) | ((with_reducible apply zB); exact rfl; exact rfl)))
      have hp0 : ((0 : Nat) : Int) + 1 = 1 := rfl
      refine awp_loopL (α := Nat × Option (List Int)) (fun x => [(6, .ptr 6 0), (8, .ptr 8 0), (12, .d (optC x.2)), (13, .d (I ((x.1 : Int) + 1)))]) (fun _ => [(6, ⟨116, rulC T A⟩), (8, ⟨126, bls f 512⟩)])
        (fun x => x.1 ≤ e ∧ x.2 = pickTo f x.1 ∧ ∀ b, x.2 = some b → b ≠ [] ∧ b.length ≤ 9) (fun x => e - x.1) (0, none) ⟨Nat.zero_le _, rfl, fun b h => by cases h⟩ (And.intro rfl (And.intro rfl (And.intro rfl (And.intro rfl trivial)))) (And.intro rfl (And.intro rfl trivial)) fun ⟨k, y⟩ ⟨hk, hy, hb⟩ => ?_
      have hk : k ≤ e := hk
      have hy : y = pickTo f k := hy
      by_cases hlt : k < e
      · have hpo := positions_A (k + 1) (by omega) (posTo_ne _ (by omega) (by omega))
        have hpl := posTo_len (k + 1) 9
        rw [show ((k + 1 : Nat) : Int) = (k : Int) + 1 by omega] at hpo
        cases hq : f (k + 1)
        · have hne := posTo_ne (k + 1) (by omega) (by omega)
          have hpk : pickTo f (k + 1) = match pickTo f k with
            | none => some (posTo (k + 1) 9)
            | some b => bif better (posTo (k + 1) 9) b then some (posTo (k + 1) 9) else some b := by
            show pickS f (pickTo f k) (k + 1) = _
            unfold pickS
            rw [hq]; rfl
          rw [← hy] at hpk
          rcases y with _ | b
          · (repeat' (first | (with_reducible first | intro hg | refine mv (by constructor) ?_) | ((with_reducible first | refine zR ?_ ?_ | refine zW mixed ?_ ?_); exact kr) | ((with_reducible apply zK); exact rfl; exact tf) | ((with_reducible apply zCD); exact rfl) | ((with_reducible apply zCN); exact rfl) | ((with_reducible apply zC); exact rfl) | ((with_reducible refine zX ?_ ?_); exact rfl) | ((with_reducible refine zE (And.intro ?_ ?_)); exact kr) | (with_reducible refine zE ?_) | ((with_reducible apply zP); (first | exact o_indexP (o := k + 1) rfl rfl (by omega) (by omega) (by omega) | exact o_loadB rfl rfl (by omega) | exact dp | exact oc rfl (hev) | exact oc rfl (hpo))) | ((with_reducible apply zN); exact dn) | ((with_reducible apply zA); exact da) | ((with_reducible apply zS); exact ds) | ((with_reducible apply zY); exact rfl; exact rfl; exact tf) | ((with_reducible apply zG); exact rfl; exact rfl; exact tf) | ((with_reducible apply zU); exact rfl; exact rfl) | ((with_reducible apply zD); exact rfl; exact rfl) | ((with_reducible apply zB); exact rfl; exact rfl)))
            exact ⟨(k + 1, some (posTo (k + 1) 9)), ⟨hlt, hpk.symm, fun b h => by cases h; exact ⟨hne, hpl⟩⟩, by show e - (k + 1) < e - k; omega, (And.intro rfl (And.intro rfl (And.intro rfl (And.intro (congrArg (fun n => AV.d (I n)) (show ((k : Int) + 1 + 1) = ((k + 1 : Nat) : Int) + 1 by omega)) trivial)))), (And.intro rfl (And.intro rfl trivial))⟩
          · have hbe := ivs_ne (hb b rfl).1
            have hbl := (hb b rfl).2
            replace hpk : pickTo f (k + 1) = bif better (posTo (k + 1) 9) b then some (posTo (k + 1) 9) else some b := hpk
            by_cases h1 : ((posTo (k + 1) 9).length : Int) < b.length
            · have hbt : better (posTo (k + 1) 9) b = true := by unfold better; rw [decide_eq_true h1]; rfl
              rw [hbt] at hpk
              (repeat' (first | (with_reducible first | intro hg | refine mv (by constructor) ?_) | ((with_reducible first | refine zR ?_ ?_ | refine zW mixed ?_ ?_); exact kr) | ((with_reducible apply zK); exact rfl; exact tf) | ((with_reducible apply zCD); exact rfl) | ((with_reducible apply zCN); exact rfl) | ((with_reducible apply zC); exact rfl) | ((with_reducible refine zX ?_ ?_); exact rfl) | ((with_reducible refine zE (And.intro ?_ ?_)); exact kr) | (with_reducible refine zE ?_) | ((with_reducible apply zP); (first | exact o_indexP (o := k + 1) rfl rfl (by omega) (by omega) (by omega) | exact o_loadB rfl rfl (by omega) | exact dp | exact oc rfl (hev) | exact oc rfl (hpo))) | ((with_reducible apply zN); exact dn) | ((with_reducible apply zA); exact da) | ((with_reducible apply zS); exact ds) | ((with_reducible apply zY); exact rfl; exact rfl; exact tf) | ((with_reducible apply zG); exact rfl; exact rfl; exact tf) | ((with_reducible apply zU); exact rfl; exact rfl) | ((with_reducible apply zD); exact rfl; exact rfl) | ((with_reducible apply zB); exact rfl; exact rfl)))
              exact ⟨(k + 1, some (posTo (k + 1) 9)), ⟨hlt, hpk.symm, fun b h => by cases h; exact ⟨hne, hpl⟩⟩, by show e - (k + 1) < e - k; omega, (And.intro rfl (And.intro rfl (And.intro rfl (And.intro (congrArg (fun n => AV.d (I n)) (show ((k : Int) + 1 + 1) = ((k + 1 : Nat) : Int) + 1 by omega)) trivial)))), (And.intro rfl (And.intro rfl trivial))⟩
            · by_cases h2 : ((posTo (k + 1) 9).length : Int) = b.length
              · have hcm := compare_A (posTo (k + 1) 9) b (by omega) (by omega)
                by_cases h3 : cmpL (posTo (k + 1) 9) b < 0
                · have hbt : better (posTo (k + 1) 9) b = true := by unfold better; rw [decide_eq_false h1, decide_eq_true h2, decide_eq_true h3]; rfl
                  rw [hbt] at hpk
                  (repeat' (first | (with_reducible first | intro hg | refine mv (by constructor) ?_) | ((with_reducible first | refine zR ?_ ?_ | refine zW mixed ?_ ?_); exact kr) | ((with_reducible apply zK); exact rfl; exact tf) | ((with_reducible apply zCD); exact rfl) | ((with_reducible apply zCN); exact rfl) | ((with_reducible apply zC); exact rfl) | ((with_reducible refine zX ?_ ?_); exact rfl) | ((with_reducible refine zE (And.intro ?_ ?_)); exact kr) | (with_reducible refine zE ?_) | ((with_reducible apply zP); (first | exact o_indexP (o := k + 1) rfl rfl (by omega) (by omega) (by omega) | exact o_loadB rfl rfl (by omega) | exact dp | exact oc rfl (hev) | exact oc rfl (hpo) | exact oc rfl (hcm))) | ((with_reducible apply zN); exact dn) | ((with_reducible apply zA); exact da) | ((with_reducible apply zS); exact ds) | ((with_reducible apply zY); exact rfl; exact rfl; exact tf) | ((with_reducible apply zG); exact rfl; exact rfl; exact tf) | ((with_reducible apply zU); exact rfl; exact rfl) | ((with_reducible apply zD); exact rfl; exact rfl) | ((with_reducible apply zB); exact rfl; exact rfl)))
                  exact ⟨(k + 1, some (posTo (k + 1) 9)), ⟨hlt, hpk.symm, fun b h => by cases h; exact ⟨hne, hpl⟩⟩, by show e - (k + 1) < e - k; omega, (And.intro rfl (And.intro rfl (And.intro rfl (And.intro (congrArg (fun n => AV.d (I n)) (show ((k : Int) + 1 + 1) = ((k + 1 : Nat) : Int) + 1 by omega)) trivial)))), (And.intro rfl (And.intro rfl trivial))⟩
                · have hbt : better (posTo (k + 1) 9) b = false := by unfold better; rw [decide_eq_false h1, decide_eq_true h2, decide_eq_false h3]; rfl
                  rw [hbt] at hpk
                  (repeat' (first | (with_reducible first | intro hg | refine mv (by constructor) ?_) | ((with_reducible first | refine zR ?_ ?_ | refine zW mixed ?_ ?_); exact kr) | ((with_reducible apply zK); exact rfl; exact tf) | ((with_reducible apply zCD); exact rfl) | ((with_reducible apply zCN); exact rfl) | ((with_reducible apply zC); exact rfl) | ((with_reducible refine zX ?_ ?_); exact rfl) | ((with_reducible refine zE (And.intro ?_ ?_)); exact kr) | (with_reducible refine zE ?_) | ((with_reducible apply zP); (first | exact o_indexP (o := k + 1) rfl rfl (by omega) (by omega) (by omega) | exact o_loadB rfl rfl (by omega) | exact dp | exact oc rfl (hev) | exact oc rfl (hpo) | exact oc rfl (hcm))) | ((with_reducible apply zN); exact dn) | ((with_reducible apply zA); exact da) | ((with_reducible apply zS); exact ds) | ((with_reducible apply zY); exact rfl; exact rfl; exact tf) | ((with_reducible apply zG); exact rfl; exact rfl; exact tf) | ((with_reducible apply zU); exact rfl; exact rfl) | ((with_reducible apply zD); exact rfl; exact rfl) | ((with_reducible apply zB); exact rfl; exact rfl)))
                  exact ⟨(k + 1, some b), ⟨hlt, hpk.symm, hb⟩, by show e - (k + 1) < e - k; omega, (And.intro rfl (And.intro rfl (And.intro rfl (And.intro (congrArg (fun n => AV.d (I n)) (show ((k : Int) + 1 + 1) = ((k + 1 : Nat) : Int) + 1 by omega)) trivial)))), (And.intro rfl (And.intro rfl trivial))⟩
              · have hbt : better (posTo (k + 1) 9) b = false := by unfold better; rw [decide_eq_false h1, decide_eq_false h2]; rfl
                rw [hbt] at hpk
                (repeat' (first | (with_reducible first | intro hg | refine mv (by constructor) ?_) | ((with_reducible first | refine zR ?_ ?_ | refine zW mixed ?_ ?_); exact kr) | ((with_reducible apply zK); exact rfl; exact tf) | ((with_reducible apply zCD); exact rfl) | ((with_reducible apply zCN); exact rfl) | ((with_reducible apply zC); exact rfl) | ((with_reducible refine zX ?_ ?_); exact rfl) | ((with_reducible refine zE (And.intro ?_ ?_)); exact kr) | (with_reducible refine zE ?_) | ((with_reducible apply zP); (first | exact o_indexP (o := k + 1) rfl rfl (by omega) (by omega) (by omega) | exact o_loadB rfl rfl (by omega) | exact dp | exact oc rfl (hev) | exact oc rfl (hpo))) | ((with_reducible apply zN); exact dn) | ((with_reducible apply zA); exact da) | ((with_reducible apply zS); exact ds) | ((with_reducible apply zY); exact rfl; exact rfl; exact tf) | ((with_reducible apply zG); exact rfl; exact rfl; exact tf) | ((with_reducible apply zU); exact rfl; exact rfl) | ((with_reducible apply zD); exact rfl; exact rfl) | ((with_reducible apply zB); exact rfl; exact rfl)))
                exact ⟨(k + 1, some b), ⟨hlt, hpk.symm, hb⟩, by show e - (k + 1) < e - k; omega, (And.intro rfl (And.intro rfl (And.intro rfl (And.intro (congrArg (fun n => AV.d (I n)) (show ((k : Int) + 1 + 1) = ((k + 1 : Nat) : Int) + 1 by omega)) trivial)))), (And.intro rfl (And.intro rfl trivial))⟩
        · (repeat' (first | (with_reducible first | intro hg | refine mv (by constructor) ?_) | ((with_reducible first | refine zR ?_ ?_ | refine zW mixed ?_ ?_); exact kr) | ((with_reducible apply zK); exact rfl; exact tf) | ((with_reducible apply zCD); exact rfl) | ((with_reducible apply zCN); exact rfl) | ((with_reducible apply zC); exact rfl) | ((with_reducible refine zX ?_ ?_); exact rfl) | ((with_reducible refine zE (And.intro ?_ ?_)); exact kr) | (with_reducible refine zE ?_) | ((with_reducible apply zP); (first | exact o_indexP (o := k + 1) rfl rfl (by omega) (by omega) (by omega) | exact o_loadB rfl rfl (by omega) | exact dp | exact oc rfl (hev))) | ((with_reducible apply zN); exact dn) | ((with_reducible apply zA); exact da) | ((with_reducible apply zS); exact ds) | ((with_reducible apply zY); exact rfl; exact rfl; exact tf) | ((with_reducible apply zG); exact rfl; exact rfl; exact tf) | ((with_reducible apply zU); exact rfl; exact rfl) | ((with_reducible apply zD); exact rfl; exact rfl) | ((with_reducible apply zB); exact rfl; exact rfl)))
          refine ⟨(k + 1, y), ⟨hlt, ?_, hb⟩, by show e - (k + 1) < e - k; omega, (And.intro rfl (And.intro rfl (And.intro rfl (And.intro (congrArg (fun n => AV.d (I n)) (show ((k : Int) + 1 + 1) = ((k + 1 : Nat) : Int) + 1 by omega)) trivial)))), (And.intro rfl (And.intro rfl trivial))⟩
          rw [hy]
          show pickTo f k = pickS f (pickTo f k) (k + 1)
          unfold pickS
          rw [hq]; rfl
      · have hke : k = e := by omega
        have hfc : f = contF T A m L := by
          rw [hf, show (yas A L).length = L.length by simp [yas]]
          unfold contF
          rw [heq]; rfl
        have hcp : y = contP T A m L := by
          rw [hy, hke, hfc]
          unfold contP
          rw [heq]; rfl
        rcases y with _ | b
        · (repeat' (first | (with_reducible first | intro hg | refine mv (by constructor) ?_) | ((with_reducible first | refine zR ?_ ?_ | refine zW mixed ?_ ?_); exact kr) | ((with_reducible apply zK); exact rfl; exact tf) | ((with_reducible apply zCD); exact rfl) | ((with_reducible apply zCN); exact rfl) | ((with_reducible apply zC); exact rfl) | ((with_reducible refine zX ?_ ?_); exact rfl) | ((with_reducible refine zE (And.intro ?_ ?_)); exact kr) | (with_reducible refine zE ?_) | ((with_reducible apply zP); (first | exact o_nenS rfl rfl | exact dp | exact oc rfl (hev) | exact oc rfl (unless_A _ _))) | ((with_reducible apply zN); exact dn) | ((with_reducible apply zA); exact da) | ((with_reducible apply zS); exact ds) | ((with_reducible apply zY); exact rfl; exact rfl; exact tf) | ((with_reducible apply zG); exact rfl; exact rfl; exact tf) | ((with_reducible apply zU); exact rfl; exact rfl) | ((with_reducible apply zD); exact rfl; exact rfl) | ((with_reducible apply zB); exact rfl; exact rfl)))
          ((with_reducible first | apply q_retR | apply q_retN); exact rl)
          rw [← hcp]; rfl
        · have hbe := ivs_ne (hb b rfl).1
          (repeat' (first | (with_reducible first | intro hg | refine mv (by constructor) ?_) | ((with_reducible first | refine zR ?_ ?_ | refine zW mixed ?_ ?_); exact kr) | ((with_reducible apply zK); exact rfl; exact tf) | ((with_reducible apply zCD); exact rfl) | ((with_reducible apply zCN); exact rfl) | ((with_reducible apply zC); exact rfl) | ((with_reducible refine zX ?_ ?_); exact rfl) | ((with_reducible refine zE (And.intro ?_ ?_)); exact kr) | (with_reducible refine zE ?_) | ((with_reducible apply zP); (first | exact o_nenD rfl hbe rfl | exact dp | exact oc rfl (hev) | exact oc rfl (unless_A _ _))) | ((with_reducible apply zN); exact dn) | ((with_reducible apply zA); exact da) | ((with_reducible apply zS); exact ds) | ((with_reducible apply zY); exact rfl; exact rfl; exact tf) | ((with_reducible apply zG); exact rfl; exact rfl; exact tf) | ((with_reducible apply zU); exact rfl; exact rfl) | ((with_reducible apply zD); exact rfl; exact rfl) | ((with_reducible apply zB); exact rfl; exact rfl)))
          ((with_reducible first | apply q_retR | apply q_retN); exact rl)
          rw [← hcp]; rfl
    · (repeat' (first | (with_reducible first | intro hg | refine mv (by constructor) ?_) | ((with_reducible first | refine zR ?_ ?_ | refine zW mixed ?_ ?_); exact kr) | ((with_reducible apply zK); exact rfl; exact tf) | ((with_reducible apply zCD); exact rfl) | ((with_reducible apply zCN); exact rfl) | ((with_reducible apply zC); exact rfl) | ((with_reducible refine zX ?_ ?_); exact rfl) | ((with_reducible refine zE (And.intro ?_ ?_)); exact kr) | (with_reducible refine zE ?_) | ((with_reducible apply zP); exact dp) | ((with_reducible apply zN); exact dn) | ((with_reducible apply zA); exact da) | ((with_reducible apply zS); exact ds) | ((with_reducible apply zY); exact rfl; exact rfl; exact tf) | ((with_reducible apply zG); exact rfl; exact rfl; exact tf) | ((with_reducible apply zU); exact rfl; exact rfl) | ((with_reducible apply zD); exact rfl; exact rfl) | ((with_reducible apply zB); exact rfl; exact rfl)))
      refine awp_loopL (α := Nat) (fun i => [(2, .ptr 2 0), (3, .ptr 3 0), (6, .ptr 6 0), (8, .ptr 8 0), (10, .d (I ((s + 1 : Nat) : Int))), (40, .d (I T.length)), (41, .d (I i))]) (fun i => [(2, ⟨25, rulC T A⟩), (3, ⟨3, [I m]⟩), (6, ⟨116, rulC T A⟩), (8, ⟨126, bls (innerF f (s + 1) i) 512⟩)])
        (fun i => i ≤ T.length) (fun i => T.length - i) 0 (Nat.zero_le _) (And.intro rfl (And.intro rfl (And.intro rfl (And.intro rfl (And.intro rfl (And.intro rfl (And.intro rfl trivial))))))) (And.intro rfl (And.intro rfl (And.intro rfl (And.intro rfl trivial)))) fun i hi => ?_
      by_cases hlt : i < T.length
      · have hbo := bitOff_le (a := s + 1) (b := 2 ^ i) (by omega)
        have hnx : innerF f (s + 1) (i + 1) = updB (innerF f (s + 1) i) (bitOff (s + 1) (2 ^ i)) (innerF f (s + 1) i (bitOff (s + 1) (2 ^ i)) || innerF f (s + 1) i (s + 1)) := rfl
        generalize innerF f (s + 1) i = g at *
        cases hq : g (bitOff (s + 1) (2 ^ i))
        all_goals
          rw [hq] at hnx
          (repeat' (first | (with_reducible first | intro hg | refine mv (by constructor) ?_) | ((with_reducible first | refine zR ?_ ?_ | refine zW mixed ?_ ?_); exact kr) | ((with_reducible apply zK); exact rfl; exact tf) | ((with_reducible apply zCD); exact rfl) | ((with_reducible apply zCN); exact rfl) | ((with_reducible apply zC); exact rfl) | ((with_reducible refine zX ?_ ?_); exact rfl) | ((with_reducible refine zE (And.intro ?_ ?_)); exact kr) | (with_reducible refine zE ?_) | ((with_reducible apply zP); (first | exact o_shl (n := i) rfl rfl (by omega) (shl1 (by omega)) | exact o_andNotN (a := s + 1) rfl rfl (by omega) | exact o_indexP (o := bitOff (s + 1) (2 ^ i)) rfl rfl (by omega) (by omega) (by omega) | exact o_indexP (o := s + 1) rfl rfl (by omega) (by omega) (by omega) | exact o_loadB rfl rfl (by omega) | exact dp)) | ((with_reducible apply zN); exact dn) | ((with_reducible apply zA); exact da) | ((with_reducible apply zS); (first | exact o_storeB rfl rfl rfl (by omega) | exact ds)) | ((with_reducible apply zY); exact rfl; exact rfl; exact tf) | ((with_reducible apply zG); exact rfl; exact rfl; exact tf) | ((with_reducible apply zU); exact rfl; exact rfl) | ((with_reducible apply zD); exact rfl; exact rfl) | ((with_reducible apply zB); exact rfl; exact rfl)))
          exact ⟨i + 1, hlt, by omega, (And.intro rfl (And.intro rfl (And.intro rfl (And.intro rfl (And.intro rfl (And.intro rfl (And.intro rfl trivial))))))), (And.intro rfl (And.intro rfl (And.intro rfl (And.intro (congrArg (fun f => some (Blk.mk _ (bls f 512))) hnx.symm) trivial))))⟩
      · have hil : i = T.length := by omega
        subst hil
        have hfs : innerF f (s + 1) T.length = outerF (tog T A m L (yas A L).length) T.length e (e - s) := by
          rw [show e - s = (e - (s + 1)) + 1 by omega]
          show _ = innerF (outerF _ _ e (e - (s + 1))) (e - (e - (s + 1))) T.length
          rw [← hf, show e - (e - (s + 1)) = s + 1 by omega]
        (repeat' (first | (with_reducible first | intro hg | refine mv (by constructor) ?_) | ((with_reducible first | refine zR ?_ ?_ | refine zW mixed ?_ ?_); exact kr) | ((with_reducible apply zK); exact rfl; exact tf) | ((with_reducible apply zCD); exact rfl) | ((with_reducible apply zCN); exact rfl) | ((with_reducible apply zC); exact rfl) | ((with_reducible refine zX ?_ ?_); exact rfl) | ((with_reducible refine zE (And.intro ?_ ?_)); exact kr) | (with_reducible refine zE ?_) | ((with_reducible apply zP); exact dp) | ((with_reducible apply zN); exact dn) | ((with_reducible apply zA); exact da) | ((with_reducible apply zS); exact ds) | ((with_reducible apply zY); exact rfl; exact rfl; exact tf) | ((with_reducible apply zG); exact rfl; exact rfl; exact tf) | ((with_reducible apply zU); exact rfl; exact rfl) | ((with_reducible apply zD); exact rfl; exact rfl) | ((with_reducible apply zB); exact rfl; exact rfl)))
        exact ⟨(s, innerF f (s + 1) T.length), ⟨by show s ≤ e; omega, hfs⟩, by show s < s + 1; omega, (And.intro rfl (And.intro rfl (And.intro rfl (And.intro rfl (And.intro (congrArg (fun n => AV.d (I n)) (show (((s + 1 : Nat) : Int) - 1) = (s : Int) by omega)) trivial))))), (And.intro rfl (And.intro rfl (And.intro rfl (And.intro rfl trivial))))⟩

end Go.Proofs.YtagpmpbmfjaiiaaGreatDoor
