/- The division of a number of two words by one word: bits.Div64 (chapter 5). -/
import Derived.Test.YtfcfmpdpjmbcnaaGreatDoorEm
import Derived.Test.YtfcfmpdpjmbcnaaGreatDoorSf
import Derived.Lib.BitFns
set_option linter.unusedVariables false
set_option linter.unusedSimpArgs false
namespace Go.Proofs.YtfcfmpdpjmbcnaaGreatDoor
open Go.RowKit
set_option maxRecDepth 20000
set_option maxHeartbeats 8000000

theorem bl_rng : ∀ (f x : Nat), x < 2 ^ f → x < 2 ^ Lib.bitLenAux f x ∧ (x ≠ 0 → 2 ^ Lib.bitLenAux f x ≤ 2 * x)
  | 0, x, h => ⟨by rw [Nat.pow_zero] at h; show x < 2 ^ 0; omega, fun hx => by rw [Nat.pow_zero] at h; omega⟩
  | f + 1, x, h => by
    unfold Lib.bitLenAux
    by_cases hx : x = 0
    · subst hx
      rw [if_pos rfl]
      exact ⟨by decide, fun h => absurd rfl h⟩
    · rw [if_neg hx]
      obtain ⟨h1, h2⟩ := bl_rng f (x / 2) (by rw [Nat.pow_succ] at h; omega)
      rw [Nat.add_comm, Nat.pow_succ]
      refine ⟨by omega, fun _ => ?_⟩
      by_cases h0 : x / 2 = 0
      · have e : Lib.bitLenAux f (x / 2) = 0 := by rw [h0]; cases f <;> rfl
        rw [e]
        show 1 * 2 ≤ 2 * x
        omega
      · have := h2 h0
        omega
def Hd (p : Prop) : Prop := p
theorem Hd.i {p : Prop} (h : p) : Hd p := h
structure DvS (hi lo y k Y u L : Nat) : Prop where
  fk : k ≤ 63
  fb : (64 - (Lib.bitLen y : Int)) = (k : Int)
  fYm : y * 2 ^ k % 18446744073709551616 = Y
  fY0 : Y = y * 2 ^ k
  fn : 9223372036854775808 ≤ Y
  fYl : Y < 18446744073709551616
  fh : hi * 2 ^ k % 18446744073709551616 = hi * 2 ^ k
  fl : lo * 2 ^ k % 18446744073709551616 = L
  fLl : L < 18446744073709551616
  fs : lo / 2 ^ (64 - k) < 2 ^ k
  fdv : 2 ^ k ∣ hi * 2 ^ k
  fu : hi * 2 ^ k + lo / 2 ^ (64 - k) = u
  fuY : u < Y
  fT : (hi * 18446744073709551616 + lo) * 2 ^ k = u * 18446744073709551616 + L
theorem dv_set {hi lo y : Nat} (h : hi < y) (hl : lo < 18446744073709551616) (hy : y < 18446744073709551616) : ∃ k Y u L, DvS hi lo y k Y u L := by
  obtain ⟨h1, h2⟩ := bl_rng 64 y hy
  have h2 := h2 (by omega)
  have hb : Lib.bitLenAux 64 y = Lib.bitLen y := rfl
  rw [hb] at h1 h2
  have hle := Lib.bitLen_le y 64 (by decide) hy
  have hpos : 0 < Lib.bitLen y := by
    refine Nat.pos_of_ne_zero fun e => ?_
    rw [e] at h1
    omega
  obtain ⟨m, hm⟩ : ∃ m, m = Lib.bitLen y := ⟨_, rfl⟩
  rw [← hm] at h1 h2 hle hpos
  clear hb
  obtain ⟨k, hk⟩ : ∃ k, k = 64 - m := ⟨_, rfl⟩
  have hmk : 2 ^ m * 2 ^ k = 18446744073709551616 := by rw [← Nat.pow_add, show m + k = 64 by omega]
  have hp : 0 < 2 ^ k := Nat.pow_pos (by decide)
  have e1 : y * 2 ^ k < 18446744073709551616 := by rw [← hmk]; exact Nat.mul_lt_mul_of_pos_right h1 hp
  have e2 : 18446744073709551616 ≤ 2 * (y * 2 ^ k) := by rw [← hmk, ← Nat.mul_assoc]; exact Nat.mul_le_mul_right _ h2
  have e3 : (hi + 1) * 2 ^ k ≤ y * 2 ^ k := Nat.mul_le_mul_right _ h
  rw [Nat.add_mul, Nat.one_mul] at e3
  have e4 : 64 - k = m := by omega
  have hs : lo / 2 ^ m < 2 ^ k := by
    rw [Nat.div_lt_iff_lt_mul (Nat.pow_pos (by decide)), Nat.mul_comm, hmk]; exact hl
  have e5 : lo * 2 ^ k / 18446744073709551616 = lo / 2 ^ m := by
    rw [← hmk]; exact Nat.mul_div_mul_right _ _ hp
  have e6 := Nat.div_add_mod (lo * 2 ^ k) 18446744073709551616
  rw [e5] at e6
  refine ⟨k, y * 2 ^ k, hi * 2 ^ k + lo / 2 ^ m, lo * 2 ^ k % 18446744073709551616, by omega, by omega, Nat.mod_eq_of_lt e1, rfl, by omega, e1, Nat.mod_eq_of_lt (by omega), rfl, Nat.mod_lt _ (by decide), by rw [e4]; exact hs, Nat.dvd_mul_left _ _, by rw [e4], by omega, ?_⟩
  rw [Nat.add_mul, Nat.mul_right_comm]
  omega
theorem dq_sub {q r u : Nat} (h : q + r = u) (hr : r < 18446744073709551616) : (u + 18446744073709551616 - q) % 18446744073709551616 = r := by omega
theorem dq_two {A C R a : Nat} (h : C + R = A + a) (hR : R < 18446744073709551616) : ((A % 18446744073709551616 + a) % 18446744073709551616 + 18446744073709551616 - C % 18446744073709551616) % 18446744073709551616 = R := by omega
theorem dq_f6 {q : Nat} (h : q < 4294967296) : q * 4294967296 < 18446744073709551616 := by omega
theorem dq_f7 {q r : Nat} (h : q < 4294967296) (h2 : r < 4294967296) : q * 4294967296 + r < 18446744073709551616 := by omega
theorem dq_half {u a Y : Nat} (h : u < Y) (ha : a < 4294967296) (hY : Y < 18446744073709551616) : (u * 4294967296 + a) / Y < 4294967296 ∧ (u * 4294967296 + a) % Y < Y ∧ ((u * 4294967296 % 18446744073709551616 + a) % 18446744073709551616 + 18446744073709551616 - (u * 4294967296 + a) / Y * Y % 18446744073709551616) % 18446744073709551616 = (u * 4294967296 + a) % Y := by
  have h1 := dv_half u Y 4294967296 a (by omega) ha
  rw [Nat.mod_eq_of_lt h] at h1
  have h2 := Nat.mod_lt (u * 4294967296 + a) (show 0 < Y by omega)
  refine ⟨h1, h2, dq_two ?_ (by omega)⟩
  rw [Nat.mul_comm]
  exact Nat.div_add_mod (u * 4294967296 + a) Y
theorem dq_div {u y : Nat} (hy : 0 < y) (hu : u < 18446744073709551616) : u / y * y < 18446744073709551616 ∧ (u + 18446744073709551616 - u / y * y) % 18446744073709551616 = u % y := by
  have h1 := Nat.div_add_mod u y
  rw [Nat.mul_comm] at h1
  exact ⟨by omega, dq_sub h1 (by omega)⟩
theorem dq_whole {u L Y : Nat} (hY : 0 < Y) : (u * 18446744073709551616 + L) / Y = (u * 4294967296 + L / 4294967296) / Y * 4294967296 + ((u * 4294967296 + L / 4294967296) % Y * 4294967296 + L % 4294967296) / Y ∧ (u * 18446744073709551616 + L) % Y = ((u * 4294967296 + L / 4294967296) % Y * 4294967296 + L % 4294967296) % Y := by
  obtain ⟨t1, t2⟩ := dv_two (u * 4294967296 + L / 4294967296) Y 4294967296 (L % 4294967296) hY
  have e : (u * 4294967296 + L / 4294967296) * 4294967296 + L % 4294967296 = u * 18446744073709551616 + L := by omega
  rw [e] at t1 t2
  exact ⟨t1, t2⟩
section
variable {P : Program} {c : Fam} {Q : Exit → AS → Prop} {s : AS}
theorem awp_joinD {id : Nat} {x rest : Code} (T : AS → Prop) (h1 : AWp P c x (ABlock id (ASeq T Q)) s) (h2 : ∀ t, T t → AWp P c rest Q t) : AWp P c x (ABlock id (ASeq (AWp P c rest Q) Q)) s :=
  awp_mono h1 fun e t h => by
    have key : ∀ e t, ASeq T Q e t → ASeq (AWp P c rest Q) Q e t := fun e t h => by
      cases e with
      | normal => exact h2 t h
      | _ => exact h
    cases e with
    | exit i =>
      show if i = id then ASeq (AWp P c rest Q) Q .normal t else ASeq (AWp P c rest Q) Q (.exit i) t
      have h : if i = id then ASeq T Q .normal t else ASeq T Q (.exit i) t := h
      by_cases hi : i = id
      · rw [if_pos hi] at h ⊢
        exact key _ _ h
      · rw [if_neg hi] at h ⊢
        exact key _ _ h
    | normal => exact key .normal t h
    | _ => exact h
end
theorem lz_A (y : Nat) (h : y < 18446744073709551616) : AC Tryz.prog 148 [U y] (I (64 - (Lib.bitLen y : Int))) := fun ok w vs hv hG => by
  have hv := repL_vals_eq (us := [.int .u64 y]) hv
  subst hv
  have key := Tryz.bits_LeadingZeros64 (y : Int) w (by omega) (by omega)
  rw [Int.toNat_natCast] at key
  refine key.mono fun e w' ⟨he, hw⟩ => ⟨_, he, ?_, ?_⟩
  · exact (rep_val (ok := fun b => ok b ∨ w.heap.size ≤ b) (w := w')).2 rfl
  · rw [hw]; exact Below.refl _ _
theorem div64_A (hi lo y : Nat) (h : hi < y) (hl : lo < 18446744073709551616) (hy : y < 18446744073709551616) : AC Tryz.prog 120 [U hi, U lo, U y] (.tuple [U ((hi * 18446744073709551616 + lo) / y), U ((hi * 18446744073709551616 + lo) % y)]) := by
  by_cases h0 : hi = 0
  · subst h0
    rw [Nat.zero_mul, Nat.zero_add]
    refine ac_body Tryz.func120 rfl (by kernel_rfl) fun w0 ok => ?_; show AWp _ (ctx0 w0 ok _) _ (ARet _ _ _) (entry _)
    (repeat' (first | (with_reducible first | intro hg | refine mv (by constructor) ?_) | ((with_reducible first | refine zR ?_ ?_ | refine zW mixed ?_ ?_); exact kr) | ((with_reducible apply zK); exact rfl; exact tf) | ((with_reducible apply zCD); exact rfl) | ((with_reducible apply zCN); exact rfl) | ((with_reducible apply zC); exact rfl) | ((with_reducible refine zX ?_ ?_); exact rfl) | ((with_reducible refine zE (And.intro ?_ ?_)); exact kr) | (with_reducible refine zE ?_) | ((with_reducible apply zP); (first | exact o_quoV (by omega) (by omega) rfl rfl | exact o_remV (by omega) rfl rfl | exact dp)) | ((with_reducible apply zN); exact dn) | ((with_reducible apply zA); exact da) | ((with_reducible apply zS); exact ds) | ((with_reducible apply zY); exact rfl; exact rfl; exact tf) | ((with_reducible apply zG); exact rfl; exact rfl; exact tf) | ((with_reducible apply zU); exact rfl; exact rfl) | ((with_reducible apply zD); exact rfl; exact rfl) | ((with_reducible apply zB); exact rfl; exact rfl)))
    ((with_reducible first | apply q_retR | apply q_retN); exact rl)
    rfl
  have hlz := lz_A y hy
  obtain ⟨k, Y, u, L, hS⟩ := dv_set h hl hy
  obtain ⟨hk, hb, hYm, hY0, hn, hYl, hhm, hlm, hLl, hss, hdv, hu, huY, hT⟩ := hS
  rw [hb] at hlz
  have hkw : IntKind.u64.wrap (k : Int) = ((k : Nat) : Int) := wu (by omega)
  have hpk : 0 < 2 ^ k := Nat.pow_pos (by decide)
  have hnm := dv_norm (hi * 18446744073709551616 + lo) y (2 ^ k) hpk
  rw [hT, ← hY0] at hnm
  obtain ⟨r1, r2⟩ := hnm
  rw [← r1, ← r2]
  have hsum : hi * 2 ^ k + lo / 2 ^ (64 - k) < 18446744073709551616 := by omega
  have g0 : ¬ (y : Int) = 0 := by omega
  have g1 : ¬ (y : Int) ≤ hi := by omega
  have g2 : ¬ (hi : Int) = 0 := by omega
  clear r1 r2 hT hb hY0 hpk h hl hy h0
  replace hYm := Hd.i hYm
  replace hhm := Hd.i hhm
  replace hlm := Hd.i hlm
  replace hsum := Hd.i hsum
  replace hu := Hd.i hu
  replace hss := Hd.i hss
  replace hdv := Hd.i hdv
  replace hkw := Hd.i hkw
  have f9 : 0 < Y := by omega
  obtain ⟨t1, t2⟩ := dq_whole (u := u) (L := L) f9
  rw [t1, t2]
  clear t1 t2
  obtain ⟨yn1, hy1⟩ : ∃ a, a = Y / 4294967296 := ⟨_, rfl⟩
  obtain ⟨yn0, hy0⟩ : ∃ a, a = Y % 4294967296 := ⟨_, rfl⟩
  obtain ⟨un1, hu1⟩ : ∃ a, a = L / 4294967296 := ⟨_, rfl⟩
  obtain ⟨un0, hu0⟩ : ∃ a, a = L % 4294967296 := ⟨_, rfl⟩
  rw [← hu1, ← hu0]
  have hYe : Y = yn1 * 4294967296 + yn0 := by omega
  have b1 : yn0 < 4294967296 := by omega
  have b2 : 2147483648 ≤ yn1 := by omega
  have b3 : yn1 < 4294967296 := by omega
  have b4 : un1 < 4294967296 := by omega
  have b5 : un0 < 4294967296 := by omega
  have f3 : 0 < yn1 := by omega
  replace hy1 := Hd.i hy1
  replace hy0 := Hd.i hy0
  replace hu1 := Hd.i hu1
  replace hu0 := Hd.i hu0
  have f4 : u < 18446744073709551616 := by omega
  obtain ⟨hq1B, hR1l, s3⟩ := dq_half huY b4 hYl
  have j1 := Hd.i (dv_start hYe b1 b2 b3 huY b4)
  obtain ⟨q1, hq1⟩ : ∃ a, a = (u * 4294967296 + un1) / Y := ⟨_, rfl⟩
  obtain ⟨R, hR⟩ : ∃ a, a = (u * 4294967296 + un1) % Y := ⟨_, rfl⟩
  rw [← hq1] at hq1B s3 ⊢
  rw [← hR] at hR1l s3 ⊢
  replace s3 := Hd.i s3
  replace hq1 := Hd.i hq1
  clear hR
  obtain ⟨hq2B, hR2l, s4⟩ := dq_half hR1l b5 hYl
  have j2 := Hd.i (dv_start hYe b1 b2 b3 hR1l b5)
  obtain ⟨q2, hq2⟩ : ∃ a, a = (R * 4294967296 + un0) / Y := ⟨_, rfl⟩
  obtain ⟨R2, hR2⟩ : ∃ a, a = (R * 4294967296 + un0) % Y := ⟨_, rfl⟩
  rw [← hq2] at hq2B s4 ⊢
  rw [← hR2] at hR2l s4 ⊢
  replace s4 := Hd.i s4
  replace hq2 := Hd.i hq2
  clear hR2
  have f5 : R < 18446744073709551616 := by omega
  obtain ⟨f1, s1⟩ := dq_div f3 f4
  obtain ⟨f2, s2⟩ := dq_div f3 f5
  replace f1 := Hd.i f1
  replace f2 := Hd.i f2
  replace s1 := Hd.i s1
  replace s2 := Hd.i s2
  have f6 := Hd.i (dq_f6 hq1B)
  have f7 := Hd.i (dq_f7 hq1B hq2B)
  replace hYe := Hd.i hYe
  replace huY := Hd.i huY
  replace hR1l := Hd.i hR1l
  have c1 := Nat.mod_lt (q1 * Y) (show 0 < 18446744073709551616 by decide)
  have c2 := Nat.mod_lt (q2 * Y) (show 0 < 18446744073709551616 by decide)
  replace s3 : ((u * 4294967296 % 18446744073709551616 + un1) % 18446744073709551616 + 18446744073709551616 - q1 * Y % 18446744073709551616) % 18446744073709551616 = R := s3
  replace s4 : ((R * 4294967296 % 18446744073709551616 + un0) % 18446744073709551616 + 18446744073709551616 - q2 * Y % 18446744073709551616) % 18446744073709551616 = R2 := s4
  obtain ⟨m1, hm1⟩ : ∃ m, u * 4294967296 % 18446744073709551616 = m := ⟨_, rfl⟩
  obtain ⟨m2, hm2⟩ : ∃ m, q1 * Y % 18446744073709551616 = m := ⟨_, rfl⟩
  obtain ⟨m3, hm3⟩ : ∃ m, R * 4294967296 % 18446744073709551616 = m := ⟨_, rfl⟩
  obtain ⟨m4, hm4⟩ : ∃ m, q2 * Y % 18446744073709551616 = m := ⟨_, rfl⟩
  rw [hm1, hm2] at s3
  rw [hm3, hm4] at s4
  rw [hm2] at c1
  rw [hm4] at c2
  obtain ⟨a1, ha1⟩ : ∃ m, (m1 + un1) % 18446744073709551616 = m := ⟨_, rfl⟩
  obtain ⟨a3, ha3⟩ : ∃ m, (m3 + un0) % 18446744073709551616 = m := ⟨_, rfl⟩
  rw [ha1] at s3
  rw [ha3] at s4
  replace s3 := Hd.i s3
  replace s4 := Hd.i s4
  replace hm1 := Hd.i hm1
  replace hm2 := Hd.i hm2
  replace hm3 := Hd.i hm3
  replace hm4 := Hd.i hm4
  replace ha1 := Hd.i ha1
  replace ha3 := Hd.i ha3
  replace c1 := Hd.i c1
  replace c2 := Hd.i c2
  clear hq1B hq2B hR2l hn
  refine ac_body Tryz.func120 rfl (by kernel_rfl) fun w0 ok => ?_; show AWp _ (ctx0 w0 ok _) _ (ARet _ _ _) (entry _)
  (repeat' (first | (with_reducible first | intro hg | refine mv (by constructor) ?_) | ((with_reducible first | refine zR ?_ ?_ | refine zW mixed ?_ ?_); exact kr) | ((with_reducible apply zK); exact rfl; exact tf) | ((with_reducible apply zCD); exact rfl) | ((with_reducible apply zCN); exact rfl) | ((with_reducible apply zC); exact rfl) | ((with_reducible refine zX ?_ ?_); exact rfl) | ((with_reducible refine zE (And.intro ?_ ?_)); exact kr) | (with_reducible refine zE ?_) | ((with_reducible apply zP); (first | exact o_conv (k' := .u64) rfl (by exact hkw) | exact o_shlR hYm (by omega) rfl rfl | exact o_shlR hhm (by omega) rfl rfl | exact o_shlR hlm (by omega) rfl rfl | exact o_subV (a := 64) (b := k) (by omega) (by decide) rfl rfl | exact o_shrV (k := 64 - k) (by omega) rfl rfl | exact o_orR hu hss hdv hsum rfl rfl | exact o_shrR hy1 rfl rfl | exact o_shrR hu1 rfl rfl | exact o_andR hy0 (by omega) rfl rfl | exact o_andR hu0 (by omega) rfl rfl | exact o_quoV f3 f4 rfl rfl | exact o_mulU rfl rfl (by exact f1) | exact o_subR s1 (by exact f1) rfl rfl | exact dp | exact oc rfl (hlz))) | ((with_reducible apply zN); exact dn) | ((with_reducible apply zA); exact da) | ((with_reducible apply zS); exact ds) | ((with_reducible apply zY); exact rfl; exact rfl; exact tf) | ((with_reducible apply zG); exact rfl; exact rfl; exact tf) | ((with_reducible apply zU); exact rfl; exact rfl) | ((with_reducible apply zD); exact rfl; exact rfl) | ((with_reducible apply zB); exact rfl; exact rfl)))
  refine awp_joinD (fun t => leF t [(2, .d (U Y)), (8, .d (U k)), (9, .d (U yn1)), (10, .d (U yn0)), (11, .d (U u)), (13, .d (U un1)), (14, .d (U un0)), (15, .d (U q1))] ∧ leM t []) ?_ fun t ⟨ht1, ht2⟩ => awp_weaken (le_of ht1 ht2) ?_
  · clear s1 s2 s3 s4 hm1 hm2 hm3 hm4 ha1 ha3 c1 c2 hlz hkw hYm hhm hlm hsum hdv hss hu hR1l f1 f2 f4 f5 f6 f7 g0 g1 g2
    replace huY : u < Y := huY
    replace hYe : Y = yn1 * 4294967296 + yn0 := hYe
    replace hq1 : q1 = (u * 4294967296 + un1) / Y := hq1
    refine awp_loopL2 (α := Nat) (β := Nat) (fun a b => [(2, .d (U Y)), (8, .d (U k)), (9, .d (U yn1)), (10, .d (U yn0)), (11, .d (U u)), (13, .d (U un1)), (14, .d (U un0)), (15, .d (U a)), (16, .d (U b))]) (fun _ _ => []) (fun a b => DvJ u un1 Y yn1 a b) (fun a _ => a) (u / yn1) (u % yn1) j1 (And.intro rfl (And.intro rfl (And.intro rfl (And.intro rfl (And.intro rfl (And.intro rfl (And.intro rfl (And.intro rfl (And.intro rfl trivial))))))))) trivial fun q r hJ => ?_
    have hJ : DvJ u un1 Y yn1 q r := hJ
    have hJr := hJ.r
    have hJq := hJ.q
    have m0 : q * yn0 ≤ 4294967297 * 4294967295 := Nat.mul_le_mul hJq (by omega)
    by_cases hc : 4294967296 ≤ q ∨ 4294967296 * r + un1 < q * yn0
    · have hq0 := dv_pos hYe hJ hc
      obtain ⟨p, rfl⟩ : ∃ p, q = p + 1 := ⟨q - 1, by omega⟩
      by_cases hr2 : r + yn1 < 4294967296
      · have hJ2 := dv_step hYe huY b4 hJ hc hr2
        clear hJ j1 j2
        (repeat' (first | (with_reducible first | intro hg | refine mv (by constructor) ?_) | ((with_reducible first | refine zR ?_ ?_ | refine zW mixed ?_ ?_); exact kr) | ((with_reducible apply zK); exact rfl; exact tf) | ((with_reducible apply zCD); exact rfl) | ((with_reducible apply zCN); exact rfl) | ((with_reducible apply zC); exact rfl) | ((with_reducible refine zX ?_ ?_); exact rfl) | ((with_reducible refine zE (And.intro ?_ ?_)); exact kr) | (with_reducible refine zE ?_) | ((with_reducible apply zP); (first | exact o_mulU (a := 4294967296) (b := r) rfl rfl (by omega) | exact o_mulU rfl rfl (by omega) | exact o_addU rfl rfl (by omega) | exact o_subV (a := p + 1) (b := 1) (by omega) (by omega) rfl rfl | exact dp)) | ((with_reducible apply zN); exact dn) | ((with_reducible apply zA); exact da) | ((with_reducible apply zS); exact ds) | ((with_reducible apply zY); exact rfl; exact rfl; exact tf) | ((with_reducible apply zG); exact rfl; exact rfl; exact tf) | ((with_reducible apply zU); exact rfl; exact rfl) | ((with_reducible apply zD); exact rfl; exact rfl) | ((with_reducible apply zB); exact rfl; exact rfl)))
        all_goals exact ⟨p, r + yn1, hJ2, Nat.lt_succ_self p, (And.intro rfl (And.intro rfl (And.intro rfl (And.intro rfl (And.intro rfl (And.intro rfl (And.intro rfl (And.intro rfl (And.intro rfl trivial))))))))), trivial⟩
      · have he := dv_last hYe b1 huY b4 hJ hc (by omega)
        rw [← hq1] at he
        clear hJ j1 j2
        (repeat' (first | (with_reducible first | intro hg | refine mv (by constructor) ?_) | ((with_reducible first | refine zR ?_ ?_ | refine zW mixed ?_ ?_); exact kr) | ((with_reducible apply zK); exact rfl; exact tf) | ((with_reducible apply zCD); exact rfl) | ((with_reducible apply zCN); exact rfl) | ((with_reducible apply zC); exact rfl) | ((with_reducible refine zX ?_ ?_); exact rfl) | ((with_reducible refine zE (And.intro ?_ ?_)); exact kr) | (with_reducible refine zE ?_) | ((with_reducible apply zP); (first | exact o_mulU (a := 4294967296) (b := r) rfl rfl (by omega) | exact o_mulU rfl rfl (by omega) | exact o_addU rfl rfl (by omega) | exact o_subV (a := p + 1) (b := 1) (by omega) (by omega) rfl rfl | exact dp)) | ((with_reducible apply zN); exact dn) | ((with_reducible apply zA); exact da) | ((with_reducible apply zS); exact ds) | ((with_reducible apply zY); exact rfl; exact rfl; exact tf) | ((with_reducible apply zG); exact rfl; exact rfl; exact tf) | ((with_reducible apply zU); exact rfl; exact rfl) | ((with_reducible apply zD); exact rfl; exact rfl) | ((with_reducible apply zB); exact rfl; exact rfl)))
        all_goals exact ⟨(And.intro rfl (And.intro rfl (And.intro rfl (And.intro rfl (And.intro rfl (And.intro rfl (And.intro rfl (And.intro (congrArg (fun n : Nat => AV.d (U n)) he) trivial)))))))), trivial⟩
    · have he := dv_done hYe f9 hJ (by omega)
      rw [← hq1] at he
      clear hJ j1 j2
      (repeat' (first | (with_reducible first | intro hg | refine mv (by constructor) ?_) | ((with_reducible first | refine zR ?_ ?_ | refine zW mixed ?_ ?_); exact kr) | ((with_reducible apply zK); exact rfl; exact tf) | ((with_reducible apply zCD); exact rfl) | ((with_reducible apply zCN); exact rfl) | ((with_reducible apply zC); exact rfl) | ((with_reducible refine zX ?_ ?_); exact rfl) | ((with_reducible refine zE (And.intro ?_ ?_)); exact kr) | (with_reducible refine zE ?_) | ((with_reducible apply zP); (first | exact o_mulU (a := 4294967296) (b := r) rfl rfl (by omega) | exact o_mulU rfl rfl (by omega) | exact o_addU rfl rfl (by omega) | exact dp)) | ((with_reducible apply zN); exact dn) | ((with_reducible apply zA); exact da) | ((with_reducible apply zS); exact ds) | ((with_reducible apply zY); exact rfl; exact rfl; exact tf) | ((with_reducible apply zG); exact rfl; exact rfl; exact tf) | ((with_reducible apply zU); exact rfl; exact rfl) | ((with_reducible apply zD); exact rfl; exact rfl) | ((with_reducible apply zB); exact rfl; exact rfl)))
      all_goals exact ⟨(And.intro rfl (And.intro rfl (And.intro rfl (And.intro rfl (And.intro rfl (And.intro rfl (And.intro rfl (And.intro (congrArg (fun n : Nat => AV.d (U n)) he) trivial)))))))), trivial⟩
  (repeat' (first | (with_reducible first | intro hg | refine mv (by constructor) ?_) | ((with_reducible first | refine zR ?_ ?_ | refine zW mixed ?_ ?_); exact kr) | ((with_reducible apply zK); exact rfl; exact tf) | ((with_reducible apply zCD); exact rfl) | ((with_reducible apply zCN); exact rfl) | ((with_reducible apply zC); exact rfl) | ((with_reducible refine zX ?_ ?_); exact rfl) | ((with_reducible refine zE (And.intro ?_ ?_)); exact kr) | (with_reducible refine zE ?_) | ((with_reducible apply zP); (first | exact o_mulR (a := u) (b := 4294967296) hm1 rfl rfl | exact o_mulR (a := q1) (b := Y) hm2 rfl rfl | exact o_mulU (a := R / yn1) (b := yn1) rfl rfl (by exact f2) | exact o_addR (a := m1) (b := un1) ha1 rfl rfl | exact o_subR (a := a1) (b := m2) s3 c1 rfl rfl | exact o_subR (a := R) (b := R / yn1 * yn1) s2 f2 rfl rfl | exact o_quoV (a := R) (b := yn1) f3 f5 rfl rfl | exact dp)) | ((with_reducible apply zN); exact dn) | ((with_reducible apply zA); exact da) | ((with_reducible apply zS); exact ds) | ((with_reducible apply zY); exact rfl; exact rfl; exact tf) | ((with_reducible apply zG); exact rfl; exact rfl; exact tf) | ((with_reducible apply zU); exact rfl; exact rfl) | ((with_reducible apply zD); exact rfl; exact rfl) | ((with_reducible apply zB); exact rfl; exact rfl)))
  refine awp_joinD (fun t => leF t [(2, .d (U Y)), (8, .d (U k)), (9, .d (U yn1)), (10, .d (U yn0)), (14, .d (U un0)), (15, .d (U q1)), (17, .d (U R)), (18, .d (U q2))] ∧ leM t []) ?_ fun t ⟨ht1, ht2⟩ => awp_weaken (le_of ht1 ht2) ?_
  · clear s1 s2 s3 s4 hm1 hm2 hm3 hm4 ha1 ha3 c1 c2 hlz hkw hYm hhm hlm hsum hdv hss hu huY f1 f2 f4 f5 f6 f7 g0 g1 g2
    replace hR1l : R < Y := hR1l
    replace hYe : Y = yn1 * 4294967296 + yn0 := hYe
    replace hq2 : q2 = (R * 4294967296 + un0) / Y := hq2
    refine awp_loopL2 (α := Nat) (β := Nat) (fun a b => [(2, .d (U Y)), (8, .d (U k)), (9, .d (U yn1)), (10, .d (U yn0)), (14, .d (U un0)), (15, .d (U q1)), (17, .d (U R)), (18, .d (U a)), (16, .d (U b))]) (fun _ _ => []) (fun a b => DvJ R un0 Y yn1 a b) (fun a _ => a) (R / yn1) (R % yn1) j2 (And.intro rfl (And.intro rfl (And.intro rfl (And.intro rfl (And.intro rfl (And.intro rfl (And.intro rfl (And.intro rfl (And.intro rfl trivial))))))))) trivial fun q r hJ => ?_
    have hJ : DvJ R un0 Y yn1 q r := hJ
    have hJr := hJ.r
    have hJq := hJ.q
    have m0 : q * yn0 ≤ 4294967297 * 4294967295 := Nat.mul_le_mul hJq (by omega)
    by_cases hc : 4294967296 ≤ q ∨ 4294967296 * r + un0 < q * yn0
    · have hq0 := dv_pos hYe hJ hc
      obtain ⟨p, rfl⟩ : ∃ p, q = p + 1 := ⟨q - 1, by omega⟩
      by_cases hr2 : r + yn1 < 4294967296
      · have hJ2 := dv_step hYe hR1l b5 hJ hc hr2
        clear hJ j1 j2
        (repeat' (first | (with_reducible first | intro hg | refine mv (by constructor) ?_) | ((with_reducible first | refine zR ?_ ?_ | refine zW mixed ?_ ?_); exact kr) | ((with_reducible apply zK); exact rfl; exact tf) | ((with_reducible apply zCD); exact rfl) | ((with_reducible apply zCN); exact rfl) | ((with_reducible apply zC); exact rfl) | ((with_reducible refine zX ?_ ?_); exact rfl) | ((with_reducible refine zE (And.intro ?_ ?_)); exact kr) | (with_reducible refine zE ?_) | ((with_reducible apply zP); (first | exact o_mulU (a := 4294967296) (b := r) rfl rfl (by omega) | exact o_mulU rfl rfl (by omega) | exact o_addU rfl rfl (by omega) | exact o_subV (a := p + 1) (b := 1) (by omega) (by omega) rfl rfl | exact dp)) | ((with_reducible apply zN); exact dn) | ((with_reducible apply zA); exact da) | ((with_reducible apply zS); exact ds) | ((with_reducible apply zY); exact rfl; exact rfl; exact tf) | ((with_reducible apply zG); exact rfl; exact rfl; exact tf) | ((with_reducible apply zU); exact rfl; exact rfl) | ((with_reducible apply zD); exact rfl; exact rfl) | ((with_reducible apply zB); exact rfl; exact rfl)))
        all_goals exact ⟨p, r + yn1, hJ2, Nat.lt_succ_self p, (And.intro rfl (And.intro rfl (And.intro rfl (And.intro rfl (And.intro rfl (And.intro rfl (And.intro rfl (And.intro rfl (And.intro rfl trivial))))))))), trivial⟩
      · have he := dv_last hYe b1 hR1l b5 hJ hc (by omega)
        rw [← hq2] at he
        clear hJ j1 j2
        (repeat' (first | (with_reducible first | intro hg | refine mv (by constructor) ?_) | ((with_reducible first | refine zR ?_ ?_ | refine zW mixed ?_ ?_); exact kr) | ((with_reducible apply zK); exact rfl; exact tf) | ((with_reducible apply zCD); exact rfl) | ((with_reducible apply zCN); exact rfl) | ((with_reducible apply zC); exact rfl) | ((with_reducible refine zX ?_ ?_); exact rfl) | ((with_reducible refine zE (And.intro ?_ ?_)); exact kr) | (with_reducible refine zE ?_) | ((with_reducible apply zP); (first | exact o_mulU (a := 4294967296) (b := r) rfl rfl (by omega) | exact o_mulU rfl rfl (by omega) | exact o_addU rfl rfl (by omega) | exact o_subV (a := p + 1) (b := 1) (by omega) (by omega) rfl rfl | exact dp)) | ((with_reducible apply zN); exact dn) | ((with_reducible apply zA); exact da) | ((with_reducible apply zS); exact ds) | ((with_reducible apply zY); exact rfl; exact rfl; exact tf) | ((with_reducible apply zG); exact rfl; exact rfl; exact tf) | ((with_reducible apply zU); exact rfl; exact rfl) | ((with_reducible apply zD); exact rfl; exact rfl) | ((with_reducible apply zB); exact rfl; exact rfl)))
        all_goals exact ⟨(And.intro rfl (And.intro rfl (And.intro rfl (And.intro rfl (And.intro rfl (And.intro rfl (And.intro rfl (And.intro (congrArg (fun n : Nat => AV.d (U n)) he) trivial)))))))), trivial⟩
    · have he := dv_done hYe f9 hJ (by omega)
      rw [← hq2] at he
      clear hJ j1 j2
      (repeat' (first | (with_reducible first | intro hg | refine mv (by constructor) ?_) | ((with_reducible first | refine zR ?_ ?_ | refine zW mixed ?_ ?_); exact kr) | ((with_reducible apply zK); exact rfl; exact tf) | ((with_reducible apply zCD); exact rfl) | ((with_reducible apply zCN); exact rfl) | ((with_reducible apply zC); exact rfl) | ((with_reducible refine zX ?_ ?_); exact rfl) | ((with_reducible refine zE (And.intro ?_ ?_)); exact kr) | (with_reducible refine zE ?_) | ((with_reducible apply zP); (first | exact o_mulU (a := 4294967296) (b := r) rfl rfl (by omega) | exact o_mulU rfl rfl (by omega) | exact o_addU rfl rfl (by omega) | exact dp)) | ((with_reducible apply zN); exact dn) | ((with_reducible apply zA); exact da) | ((with_reducible apply zS); exact ds) | ((with_reducible apply zY); exact rfl; exact rfl; exact tf) | ((with_reducible apply zG); exact rfl; exact rfl; exact tf) | ((with_reducible apply zU); exact rfl; exact rfl) | ((with_reducible apply zD); exact rfl; exact rfl) | ((with_reducible apply zB); exact rfl; exact rfl)))
      all_goals exact ⟨(And.intro rfl (And.intro rfl (And.intro rfl (And.intro rfl (And.intro rfl (And.intro rfl (And.intro rfl (And.intro (congrArg (fun n : Nat => AV.d (U n)) he) trivial)))))))), trivial⟩
  (repeat' (first | (with_reducible first | intro hg | refine mv (by constructor) ?_) | ((with_reducible first | refine zR ?_ ?_ | refine zW mixed ?_ ?_); exact kr) | ((with_reducible apply zK); exact rfl; exact tf) | ((with_reducible apply zCD); exact rfl) | ((with_reducible apply zCN); exact rfl) | ((with_reducible apply zC); exact rfl) | ((with_reducible refine zX ?_ ?_); exact rfl) | ((with_reducible refine zE (And.intro ?_ ?_)); exact kr) | (with_reducible refine zE ?_) | ((with_reducible apply zP); (first | exact o_mulU (a := q1) (b := 4294967296) rfl rfl (by exact f6) | exact o_addU (a := q1 * 4294967296) (b := q2) rfl rfl (by exact f7) | exact o_mulR (a := R) (b := 4294967296) hm3 rfl rfl | exact o_mulR (a := q2) (b := Y) hm4 rfl rfl | exact o_addR (a := m3) (b := un0) ha3 rfl rfl | exact o_subR (a := a3) (b := m4) s4 c2 rfl rfl | exact o_shrV (a := R2) (k := k) (by omega) rfl rfl | exact dp)) | ((with_reducible apply zN); exact dn) | ((with_reducible apply zA); exact da) | ((with_reducible apply zS); exact ds) | ((with_reducible apply zY); exact rfl; exact rfl; exact tf) | ((with_reducible apply zG); exact rfl; exact rfl; exact tf) | ((with_reducible apply zU); exact rfl; exact rfl) | ((with_reducible apply zD); exact rfl; exact rfl) | ((with_reducible apply zB); exact rfl; exact rfl)))
  ((with_reducible first | apply q_retR | apply q_retN); exact rl)
  rfl

end Go.Proofs.YtfcfmpdpjmbcnaaGreatDoor
