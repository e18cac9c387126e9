/- Merged: XBl XBq XBm XBn. -/
import Derived.Test.YtgjhikjnlcbmkaaW3
set_option linter.unusedVariables false
set_option linter.unusedSimpArgs false
/- Walk: Run. -/
namespace Go.Proofs.Ytgjhikjnlcbmkaa
open Go.RowKit
set_option maxRecDepth 20000
set_option maxHeartbeats 1000000

def own2 (a b P : Nat) : Nat → AV
  | 0 => .lsl a 0 P 1
  | j + 1 => .lsl b 0 (P + (j + 1)) 1
def own2M (a b : Nat) (t : TypeId) (cs : List DV) : Nat → List (Nat × Blk)
  | 0 => [(a, ⟨t, cs⟩)]
  | _ + 1 => [(b, ⟨t, cs⟩)]
section
variable {P : Program} {s : AS} {ty : TypeId} {ps : String} {af : Array Edge} {dst : Option Tmp} {t : TypeId} {x y z : Operand} {k k2 : IntKind}
theorem o_sliceLHI' {n : Nat} {l h : Int} {xs : List Int} [ht : IdxI P t false n 1] (hx : s.ev x = .d (isl xs)) (hy : s.ev y = .d (.val (.int k l))) (hz : s.ev z = .d (.val (.int k2 h))) (h0 : 0 ≤ l) (hl : l ≤ h) (hh : h ≤ xs.length) (gd : Option (Nat × Bool)) : Does P ⟨dst, .slice t x (some y) (some z) none, ty, ps, af, gd⟩ s [] (.put (.d (isl ((xs.drop l.toNat).take (h.toNat - l.toNat))))) :=
  o_sliceLHI (l := l.toNat) (h := h.toNat) hx (by rw [hy, Int.toNat_of_nonneg h0]) (by rw [hz, Int.toNat_of_nonneg (by omega)]) (by omega) (by omega) gd
end

def numRe (xs : List Int) (P : Nat) (o : Int) (k : Nat) : Int := nearRe P o (turnOf xs P (k / P - 1)) ((k / P - 1) * P : Nat)
def numIm (xs : List Int) (P : Nat) (o : Int) (k : Nat) : Int := nearIm P o (turnOf xs P (k / P - 1)) ((k / P - 1) * P : Nat)
def numR (xs : List Int) (P : Nat) (o : Int) : Nat → DV
  | 0 => .val (.complex .f64 0 0)
  | j + 1 => .val (.complex .f64 (floatOfInt .f64 (numRe xs P o (P + j))) (floatOfInt .f64 (numIm xs P o (P + j))))
theorem run_ok (xs : List Int) (nm : ByteArray) (P : Nat) (o : Int) (hs : nm.size ≤ 140737488355328) (he : turnErr xs nm P o = 0) :
    AC Try.prog 22 [isl xs, drumV nm P o] (.tuple [isl (lst (runAt xs P o) xs.length), I 0]) := by
  obtain ⟨hd, hm, hl, hB⟩ := low2 he
  obtain ⟨d1, d2, d3, d4⟩ := id hd
  have hP0 : 0 < P := by omega
  have hB4 : Bnd 4000000 xs := hB.mono (by omega)
  have hcl : ACo Try.prog 63 [isl (xs.take P)] 3 P 1 (ivs (lst (runAt xs P o) P)) := by
    have h1 : lst (runAt xs P o) P = xs.take P := by
      apply List.ext_getElem
      · simp [lst]; omega
      · intro i h1 h2
        simp only [lst, List.getElem_map, List.getElem_range, List.getElem_take]
        have hi : i < P := by simpa [lst] using h1
        have hi2 : i < xs.length := by omega
        unfold runAt nth
        rw [if_pos hi, List.getD_eq_getElem?_getD, List.getElem?_eq_getElem hi2]; rfl
    have h2 : (xs.take P).length = P := by rw [List.length_take]; omega
    have := clone_A (xs.take P) (by omega) (by intro h; rw [h] at h2; simp at h2; omega)
    rw [h2] at this
    rw [h1]
    exact this
  refine ac_body Try.func22 rfl (by kernel_rfl) fun w0 ok => ?_; show AWp _ (ctx0 w0 ok _) _ (ARet _ _ _) (entry _)
  (repeat' (first | (with_reducible first | intro hg | refine mv (by constructor) ?_) | ((with_reducible first | refine zR ?_ ?_ | refine zW mixed ?_ ?_); exact kr) | ((with_reducible apply zK); exact rfl; exact tf) | ((with_reducible apply zCD); exact rfl) | ((with_reducible apply zCN); exact rfl) | ((with_reducible apply zC); exact rfl) | ((with_reducible refine zX ?_ ?_); exact rfl) | ((with_reducible refine zE (And.intro ?_ ?_)); exact kr) | (with_reducible refine zE ?_) | ((with_reducible apply zP); (first | exact dp | exact oc rfl (turning_A _ _ _ _ (by omega) hs ⟨by omega, by omega⟩))) | ((with_reducible apply zN); (first | exact dn | exact o_callO rfl hcl (.inl rfl))) | ((with_reducible apply zA); exact da) | ((with_reducible apply zS); exact ds) | ((with_reducible apply zY); exact rfl; exact rfl; exact tf) | ((with_reducible apply zG); exact rfl; exact rfl; exact tf) | ((with_reducible apply zU); exact rfl; exact rfl) | ((with_reducible apply zD); exact rfl; exact rfl) | ((with_reducible apply zB); exact rfl; exact rfl)))
  refine awp_loopL (α := Nat) (fun j => [(0, .d (isl xs)), (3, .ptr 3 0), (5, .d (I 0)), (6, .ptr 6 0), (8, own2 24 63 P j), (9, .d (numR xs P o j)), (10, .d (I (P + j : Nat)))])
    (fun j => (3, ⟨24, [S nm, I P, I o]⟩) :: (6, ⟨69, [S nm, I P, I o]⟩) :: own2M 24 63 3 (ivs (lst (runAt xs P o) (P + j))) j) (fun j => P + j ≤ xs.length) (fun j => xs.length - j) 0 (by omega) (And.intro rfl (And.intro rfl (And.intro rfl (And.intro rfl (And.intro rfl (And.intro rfl (And.intro rfl trivial))))))) (And.intro rfl (And.intro rfl (And.intro rfl trivial))) fun j hj => ?_
  by_cases hlt : P + j < xs.length
  · obtain ⟨v1, v2⟩ := nth_bnd hB hlt
    have hdv : ((P + j : Nat) : Int) / (P : Int) = (((P + j) / P : Nat) : Int) := (Int.natCast_ediv _ P).symm
    have hmv : ((P + j : Nat) : Int) % (P : Int) = (((P + j) % P : Nat) : Int) := (Int.natCast_emod _ P).symm
    obtain ⟨t1, t2⟩ := turn_in (P := P) (k := P + j) hP0 (by omega)
    obtain ⟨w1, w2⟩ := run_near (o := o) (k0 := (((P + j) / P - 1) * P : Nat)) (t := (P + j) / P - 1) hB hP0 (by omega)
    have w1 : (numRe xs P o (P + j)).natAbs ≤ 4000000 := w1
    have w2 : (numIm xs P o (P + j)).natAbs ≤ 4000000 := w2
    obtain ⟨v3, v4⟩ := wave_bnd (p := P) (o := o) (k := (P + j : Nat)) (B := 1000000000) (re := numRe xs P o (P + j)) (im := numIm xs P o (P + j)) (by omega) (by omega)
    have hrun : nth xs (P + j) - wave P o (numRe xs P o (P + j)) (numIm xs P o (P + j)) (P + j : Nat) = runAt xs P o (P + j) := by unfold runAt numRe numIm; rw [if_neg (by omega)]
    have hwv := waveN_A nm P o (numRe xs P o (P + j)) (numIm xs P o (P + j)) (P + j : Nat) hd (by omega) (by omega) (by omega) (by omega)
    have hnear (hz : (P + j) % P = 0) : AC Try.prog 64 [drumV nm P o, isl ((xs.drop (((P + j : Nat) : Int) - P).toNat).take (((P + j : Nat) : Int).toNat - (((P + j : Nat) : Int) - P).toNat)), I (((P + j : Nat) : Int) - P)] (gV (numRe xs P o (P + j)) (numIm xs P o (P + j))) := by
      have hk : (P + j) / P * P = P + j := Nat.div_mul_cancel (Nat.dvd_of_mod_eq_zero hz)
      have hk2 : ((P + j) / P - 1) * P = P + j - P := by rw [Nat.sub_mul, Nat.one_mul, hk]
      have e1 : (xs.drop (((P + j : Nat) : Int) - P).toNat).take (((P + j : Nat) : Int).toNat - (((P + j : Nat) : Int) - P).toNat) = turnOf xs P ((P + j) / P - 1) := by
        unfold turnOf; rw [hk2, show ((P + j : Nat) : Int).toNat - (((P + j : Nat) : Int) - P).toNat = P by omega, show (((P + j : Nat) : Int) - P).toNat = P + j - P by omega]
      have e2 : ((P + j : Nat) : Int) - P = (((P + j) / P - 1) * P : Nat) := by rw [hk2]; omega
      rw [e1, e2]
      exact nearestOf_A nm P o (turnOf xs P ((P + j) / P - 1)) _ (by rw [turn_len (by omega)]; omega) hd (by omega) (by omega) (turn_bnd hB4) (by rw [turn_len (by omega)]; exact Int.le_refl _)
    have hnum := numberOf_A (numRe xs P o (P + j)) (numIm xs P o (P + j))
    by_cases hz : (P + j) % P = 0
    · have hz1 : ((P + j : Nat) : Int) % (P : Int) = 0 := by rw [hmv, hz]; rfl
      have hnear := hnear hz
      rcases j with _ | j
      · (repeat' (first | (with_reducible first | intro hg | refine mv (by constructor) ?_) | ((with_reducible first | refine zR ?_ ?_ | refine zW mixed ?_ ?_); exact kr) | ((with_reducible apply zK); exact rfl; exact tf) | ((with_reducible apply zCD); exact rfl) | ((with_reducible apply zCN); exact rfl) | ((with_reducible apply zC); exact rfl) | ((with_reducible refine zX ?_ ?_); exact rfl) | ((with_reducible refine zE (And.intro ?_ ?_)); exact kr) | (with_reducible refine zE ?_) | ((with_reducible apply zP); (first | exact o_sliceLHI' rfl rfl rfl (by omega) (by omega) (by omega) | exact dp | exact oc rfl (hnear) | exact oc rfl (hnum) | exact oc rfl (hwv))) | ((with_reducible apply zN); exact dn) | ((with_reducible apply zA); exact da) | ((with_reducible apply zS); exact ds) | ((with_reducible apply zY); exact rfl; exact rfl; exact tf) | ((with_reducible apply zG); exact rfl; exact rfl; exact tf) | ((with_reducible apply zU); exact rfl; exact rfl) | ((with_reducible apply zD); exact rfl; exact rfl) | ((with_reducible apply zB); exact rfl; exact rfl)))
        refine ⟨1, by omega, by omega, (And.intro rfl (And.intro rfl (And.intro rfl (And.intro rfl (And.intro rfl (And.intro rfl (And.intro rfl trivial))))))), (And.intro rfl (And.intro rfl (And.intro (blk_snoc _ _ _ hrun) trivial)))⟩
      · (repeat' (first | (with_reducible first | intro hg | refine mv (by constructor) ?_) | ((with_reducible first | refine zR ?_ ?_ | refine zW mixed ?_ ?_); exact kr) | ((with_reducible apply zK); exact rfl; exact tf) | ((with_reducible apply zCD); exact rfl) | ((with_reducible apply zCN); exact rfl) | ((with_reducible apply zC); exact rfl) | ((with_reducible refine zX ?_ ?_); exact rfl) | ((with_reducible refine zE (And.intro ?_ ?_)); exact kr) | (with_reducible refine zE ?_) | ((with_reducible apply zP); (first | exact o_sliceLHI' rfl rfl rfl (by omega) (by omega) (by omega) | exact dp | exact oc rfl (hnear) | exact oc rfl (hnum) | exact oc rfl (hwv))) | ((with_reducible apply zN); exact dn) | ((with_reducible apply zA); exact da) | ((with_reducible apply zS); exact ds) | ((with_reducible apply zY); exact rfl; exact rfl; exact tf) | ((with_reducible apply zG); exact rfl; exact rfl; exact tf) | ((with_reducible apply zU); exact rfl; exact rfl) | ((with_reducible apply zD); exact rfl; exact rfl) | ((with_reducible apply zB); exact rfl; exact rfl)))
        refine ⟨j + 2, by omega, by omega, (And.intro rfl (And.intro rfl (And.intro rfl (And.intro rfl (And.intro rfl (And.intro rfl (And.intro rfl trivial))))))), (And.intro rfl (And.intro rfl (And.intro (blk_snoc _ _ _ hrun) trivial)))⟩
    · have hz1 : ¬ ((P + j : Nat) : Int) % (P : Int) = 0 := by rw [hmv]; omega
      rcases j with _ | j
      · exfalso; apply hz; rw [Nat.add_zero]; exact Nat.mod_self P
      · have hsame : (P + (j + 1)) / P = (P + j) / P := div_succ hP0 hz
        have e1 : numRe xs P o (P + (j + 1)) = numRe xs P o (P + j) := by unfold numRe; rw [hsame]
        have e2 : numIm xs P o (P + (j + 1)) = numIm xs P o (P + j) := by unfold numIm; rw [hsame]
        rw [e1, e2] at hwv hrun
        rw [e1, e2] at v3 v4
        (repeat' (first | (with_reducible first | intro hg | refine mv (by constructor) ?_) | ((with_reducible first | refine zR ?_ ?_ | refine zW mixed ?_ ?_); exact kr) | ((with_reducible apply zK); exact rfl; exact tf) | ((with_reducible apply zCD); exact rfl) | ((with_reducible apply zCN); exact rfl) | ((with_reducible apply zC); exact rfl) | ((with_reducible refine zX ?_ ?_); exact rfl) | ((with_reducible refine zE (And.intro ?_ ?_)); exact kr) | (with_reducible refine zE ?_) | ((with_reducible apply zP); (first | exact dp | exact oc rfl (hwv))) | ((with_reducible apply zN); exact dn) | ((with_reducible apply zA); exact da) | ((with_reducible apply zS); exact ds) | ((with_reducible apply zY); exact rfl; exact rfl; exact tf) | ((with_reducible apply zG); exact rfl; exact rfl; exact tf) | ((with_reducible apply zU); exact rfl; exact rfl) | ((with_reducible apply zD); exact rfl; exact rfl) | ((with_reducible apply zB); exact rfl; exact rfl)))
        refine ⟨j + 2, by omega, by omega, (And.intro rfl (And.intro rfl (And.intro rfl (And.intro rfl (And.intro rfl (And.intro (congrArg (fun x => AV.d x) (show DV.val (.complex .f64 (floatOfInt .f64 (numRe xs P o (P + j))) (floatOfInt .f64 (numIm xs P o (P + j)))) = .val (.complex .f64 (floatOfInt .f64 (numRe xs P o (P + (j + 1)))) (floatOfInt .f64 (numIm xs P o (P + (j + 1))))) by rw [e1, e2])) (And.intro (rfl) trivial))))))), (And.intro rfl (And.intro rfl (And.intro (blk_snoc _ _ _ hrun) trivial)))⟩
  · have hk2 : P + j = xs.length := by omega
    rw [← hk2]
    rcases j with _ | j
    · (repeat' (first | (with_reducible first | intro hg | refine mv (by constructor) ?_) | ((with_reducible first | refine zR ?_ ?_ | refine zW mixed ?_ ?_); exact kr) | ((with_reducible apply zK); exact rfl; exact tf) | ((with_reducible apply zCD); exact rfl) | ((with_reducible apply zCN); exact rfl) | ((with_reducible apply zC); exact rfl) | ((with_reducible refine zX ?_ ?_); exact rfl) | ((with_reducible refine zE (And.intro ?_ ?_)); exact kr) | (with_reducible refine zE ?_) | ((with_reducible apply zP); exact dp) | ((with_reducible apply zN); exact dn) | ((with_reducible apply zA); exact da) | ((with_reducible apply zS); exact ds) | ((with_reducible apply zY); exact rfl; exact rfl; exact tf) | ((with_reducible apply zG); exact rfl; exact rfl; exact tf) | ((with_reducible apply zU); exact rfl; exact rfl) | ((with_reducible apply zD); exact rfl; exact rfl) | ((with_reducible apply zB); exact rfl; exact rfl)))
      ((with_reducible first | apply q_retR | apply q_retN); exact rl)
      rw [← sl_whole]
      rfl
    · (repeat' (first | (with_reducible first | intro hg | refine mv (by constructor) ?_) | ((with_reducible first | refine zR ?_ ?_ | refine zW mixed ?_ ?_); exact kr) | ((with_reducible apply zK); exact rfl; exact tf) | ((with_reducible apply zCD); exact rfl) | ((with_reducible apply zCN); exact rfl) | ((with_reducible apply zC); exact rfl) | ((with_reducible refine zX ?_ ?_); exact rfl) | ((with_reducible refine zE (And.intro ?_ ?_)); exact kr) | (with_reducible refine zE ?_) | ((with_reducible apply zP); exact dp) | ((with_reducible apply zN); exact dn) | ((with_reducible apply zA); exact da) | ((with_reducible apply zS); exact ds) | ((with_reducible apply zY); exact rfl; exact rfl; exact tf) | ((with_reducible apply zG); exact rfl; exact rfl; exact tf) | ((with_reducible apply zU); exact rfl; exact rfl) | ((with_reducible apply zD); exact rfl; exact rfl) | ((with_reducible apply zB); exact rfl; exact rfl)))
      ((with_reducible first | apply q_retR | apply q_retN); exact rl)
      rw [← sl_whole]
      rfl

end Go.Proofs.Ytgjhikjnlcbmkaa

/- Determinants, equations, fits: plain definitions and laws. Nothing of the program. -/
namespace Go.Proofs.Ytgjhikjnlcbmkaa
open Go.RowKit
def detStep (st : Int × Int) (used : Bool) (e sub : Int) : Int × Int := bif used then st else (-st.1, st.2 + st.1 * e * sub)
def ua (a b c d : Bool) : Nat → Bool | 0 => a | 1 => b | 2 => c | _ => d
def subAt (f : Bool → Bool → Bool → Bool → Int) (a b c d : Bool) : Nat → Int | 0 => f true b c d | 1 => f a true c d | 2 => f a b true d | _ => f a b c true
def detSt (f : Bool → Bool → Bool → Bool → Int) (e : Nat → Int) (a b c d : Bool) : Nat → Int × Int
  | 0 => (1, 0)
  | k + 1 => detStep (detSt f e a b c d k) (ua a b c d k) (e k) (subAt f a b c d k)
def det (m : Nat → Nat → Int) : Nat → Bool → Bool → Bool → Bool → Int
  | 0, _, _, _, _ => 1
  | n + 1, a, b, c, d => (detSt (det m n) (m (3 - n)) a b c d 4).2
def MB (m : Nat → Nat → Int) (K T q : Nat) : Prop := ∀ r j, r < 4 → j < 4 → (m r j).natAbs ≤ if j = q then K * T else K
def detB (K T q n : Nat) (a b c d : Bool) : Nat := (4 * K) ^ n * (bif ua a b c d q then 1 else T)
theorem detStep_sign {st : Int × Int} {u : Bool} {e s : Int} (h : st.1 = 1 ∨ st.1 = -1) : (detStep st u e s).1 = 1 ∨ (detStep st u e s).1 = -1 := by
  cases u
  · simp only [detStep, cond_false]; omega
  · exact h
theorem detSt_sign (f : Bool → Bool → Bool → Bool → Int) (e : Nat → Int) (a b c d : Bool) (k : Nat) : (detSt f e a b c d k).1 = 1 ∨ (detSt f e a b c d k).1 = -1 := by
  induction k with
  | zero => exact .inl rfl
  | succ k ih => exact detStep_sign ih
theorem detB_le (K T q n : Nat) (a b c d : Bool) (hT : 1 ≤ T) (k : Nat) (hk : k < 4) (hq : q < 4) (hu : ua a b c d k = false) :
    (k = q → subAt (fun a b c d => (detB K T q n a b c d : Int)) a b c d k = (4 * K) ^ n ∧ detB K T q n a b c d = (4 * K) ^ n * T) ∧
    (k ≠ q → subAt (fun a b c d => (detB K T q n a b c d : Int)) a b c d k = detB K T q n a b c d) := by
  have hkk : k = 0 ∨ k = 1 ∨ k = 2 ∨ k = 3 := by omega
  have hqq : q = 0 ∨ q = 1 ∨ q = 2 ∨ q = 3 := by omega
  rcases hkk with rfl | rfl | rfl | rfl <;> rcases hqq with rfl | rfl | rfl | rfl <;> simp_all [subAt, detB, ua]
theorem subAt_bnd {f : Bool → Bool → Bool → Bool → Int} {B : Bool → Bool → Bool → Bool → Nat} (h : ∀ a b c d, (f a b c d).natAbs ≤ B a b c d) (a b c d : Bool) (k : Nat) : ((subAt f a b c d k).natAbs : Int) ≤ subAt (fun a b c d => (B a b c d : Int)) a b c d k := by
  match k with
  | 0 => have := h true b c d; simp only [subAt]; omega
  | 1 => have := h a true c d; simp only [subAt]; omega
  | 2 => have := h a b true d; simp only [subAt]; omega
  | _ + 3 => have := h a b c true; simp only [subAt]; omega
theorem term_bnd {f : Bool → Bool → Bool → Bool → Int} {e : Nat → Int} {K T q n : Nat} (hT : 1 ≤ T) (hq : q < 4) (he : ∀ j, j < 4 → (e j).natAbs ≤ if j = q then K * T else K)
    (h : ∀ a b c d, (f a b c d).natAbs ≤ detB K T q n a b c d) (a b c d : Bool) (k : Nat) (hk : k < 4) (hu : ua a b c d k = false) :
    (e k * subAt f a b c d k).natAbs ≤ K * detB K T q n a b c d := by
  have h1 := subAt_bnd h a b c d k
  obtain ⟨h2, h3⟩ := detB_le K T q n a b c d hT k hk hq hu
  have h4 := he k hk
  rw [Int.natAbs_mul]
  by_cases hkq : k = q
  · obtain ⟨h5, h6⟩ := h2 hkq
    rw [h5] at h1
    rw [if_pos hkq] at h4
    have h7 : (subAt f a b c d k).natAbs ≤ (4 * K) ^ n := by
      have : (((4 * K) ^ n : Nat) : Int) = (4 * (K : Int)) ^ n := by rw [Int.natCast_pow, Int.natCast_mul]; rfl
      omega
    rw [h6]
    calc (e k).natAbs * (subAt f a b c d k).natAbs ≤ (K * T) * (4 * K) ^ n := Nat.mul_le_mul h4 h7
      _ = K * ((4 * K) ^ n * T) := by rw [Nat.mul_assoc, Nat.mul_comm T]
  · rw [h3 hkq] at h1
    rw [if_neg hkq] at h4
    exact Nat.mul_le_mul h4 (by omega)
theorem detSt_bnd {f : Bool → Bool → Bool → Bool → Int} {e : Nat → Int} {K T q n : Nat} (hT : 1 ≤ T) (hq : q < 4) (he : ∀ j, j < 4 → (e j).natAbs ≤ if j = q then K * T else K)
    (h : ∀ a b c d, (f a b c d).natAbs ≤ detB K T q n a b c d) (a b c d : Bool) (k : Nat) (hk : k ≤ 4) :
    (detSt f e a b c d k).2.natAbs ≤ k * (K * detB K T q n a b c d) := by
  induction k with
  | zero => simp [detSt]
  | succ k ih =>
    have ih := ih (by omega)
    have hs := detSt_sign f e a b c d k
    cases hu : ua a b c d k
    · have ht := term_bnd hT hq he h a b c d k (by omega) hu
      have : ((detSt f e a b c d k).1 * e k * subAt f a b c d k).natAbs = (e k * subAt f a b c d k).natAbs := by
        rw [Int.mul_assoc, Int.natAbs_mul]
        rcases hs with h | h <;> rw [h] <;> simp
      rw [detSt, hu]
      simp only [detStep, cond_false, Nat.succ_mul]
      omega
    · rw [detSt, hu]
      simp only [detStep, cond_true, Nat.succ_mul]
      omega
theorem det_bnd {m : Nat → Nat → Int} {K T q : Nat} (hT : 1 ≤ T) (hq : q < 4) (hm : MB m K T q) (n : Nat) : ∀ a b c d, n ≤ 4 → (det m n a b c d).natAbs ≤ detB K T q n a b c d := by
  induction n with
  | zero => intro a b c d _; unfold det detB; cases ua a b c d q <;> simp <;> omega
  | succ n ih =>
    intro a b c d hn
    have := detSt_bnd (f := det m n) (e := m (3 - n)) hT hq (fun j hj => hm _ j (by omega) hj) (fun a b c d => ih a b c d (by omega)) a b c d 4 (Nat.le_refl _)
    show (detSt (det m n) (m (3 - n)) a b c d 4).2.natAbs ≤ _
    refine Nat.le_trans this (Nat.le_of_eq ?_)
    unfold detB
    rw [Nat.pow_succ, ← Nat.mul_assoc, ← Nat.mul_assoc, Nat.mul_comm ((4 * K) ^ n)]
def W4 (p0 o0 p1 o1 k : Int) : Nat → Int
  | 0 => wave p0 o0 1 0 k
  | 1 => wave p0 o0 0 1 k
  | 2 => wave p1 o1 1 0 k
  | _ => wave p1 o1 0 1 k
def sumTo (f : Nat → Int) : Nat → Int
  | 0 => 0
  | k + 1 => sumTo f k + f k
theorem sumTo_bnd {f : Nat → Int} {B : Nat} (h : ∀ k, (f k).natAbs ≤ B) (n : Nat) : (sumTo f n).natAbs ≤ n * B := by
  induction n with
  | zero => simp [sumTo]
  | succ n ih => have := h n; simp only [sumTo, Nat.succ_mul]; omega
theorem waveQ_one {q re im : Int} (h1 : re.natAbs ≤ 1) (h2 : im.natAbs ≤ 1) : (waveQ q re im).natAbs ≤ 1 := by
  unfold waveQ
  split
  · omega
  · split
    · omega
    · split <;> omega
theorem W4_one (p0 o0 p1 o1 k : Int) (i : Nat) : (W4 p0 o0 p1 o1 k i).natAbs ≤ 1 := by
  unfold W4
  split <;> exact waveQ_one (by decide) (by decide)
def eqM (W : Nat → Nat → Int) (K r j : Nat) : Int := sumTo (fun k => W k r * W k j) K
def eqR (W : Nat → Nat → Int) (xs : List Int) (K r : Nat) : Int := sumTo (fun k => W k r * xs[k]?.getD 0) K
def midM (W : Nat → Nat → Int) (K i j r c : Nat) : Int := eqM W K r c + if r < i ∨ r = i ∧ c < j then W K r * W K c else 0
def midR (W : Nat → Nat → Int) (xs : List Int) (K i r : Nat) : Int := eqR W xs K r + if r < i then W K r * xs[K]?.getD 0 else 0
theorem mul_one_bnd {a b : Int} {B : Nat} (ha : a.natAbs ≤ 1) (hb : b.natAbs ≤ B) : (a * b).natAbs ≤ B := by
  rw [Int.natAbs_mul]
  calc a.natAbs * b.natAbs ≤ 1 * b.natAbs := Nat.mul_le_mul_right _ ha
    _ ≤ B := by omega
theorem eqM_bnd {W : Nat → Nat → Int} (hW : ∀ k i, (W k i).natAbs ≤ 1) (K r j : Nat) : (eqM W K r j).natAbs ≤ K * 1 := sumTo_bnd (fun k => mul_one_bnd (hW k r) (hW k j)) K
theorem eqR_bnd {W : Nat → Nat → Int} {xs : List Int} (hW : ∀ k i, (W k i).natAbs ≤ 1) (hB : Bnd 1000000 xs) (K r : Nat) : (eqR W xs K r).natAbs ≤ K * 1000000 :=
  sumTo_bnd (fun k => mul_one_bnd (hW k r) (by
    by_cases h : k < xs.length
    · rw [List.getElem?_eq_getElem h]; have := hB.get h; simp only [Option.getD_some]; omega
    · rw [List.getElem?_eq_none (by omega)]; simp)) K
theorem mid_start (W : Nat → Nat → Int) (k : Nat) : midM W k 0 0 = eqM W k := by
  funext r c; simp [midM]
theorem midR_start (W : Nat → Nat → Int) (xs : List Int) (k : Nat) : midR W xs k 0 = eqR W xs k := by
  funext r; simp [midR]
theorem midR_bnd {W : Nat → Nat → Int} {xs : List Int} (hW : ∀ k i, (W k i).natAbs ≤ 1) (hB : Bnd 1000000 xs) (k a r : Nat) (h : r ≥ a) : (midR W xs k a r).natAbs ≤ k * 1000000 := by
  have := eqR_bnd hW hB k r
  simp only [midR, if_neg (show ¬ r < a by omega), Int.add_zero]; exact this
theorem midR_step (W : Nat → Nat → Int) (xs : List Int) (k a : Nat) (hk : k < xs.length) (i : Nat) (hi : i < 4) : midR W xs k (a + 1) i = if i = a then midR W xs k a a + W k a * xs[k] else midR W xs k a i := by
  unfold midR
  by_cases h : i = a
  · subst h; simp [hk]
  · by_cases h2 : i < a
    · simp [h, h2, show i < a + 1 by omega]
    · simp [h, h2, show ¬ i < a + 1 by omega]
theorem midM_bnd {W : Nat → Nat → Int} (hW : ∀ k i, (W k i).natAbs ≤ 1) (k a j : Nat) : (midM W k a j a j).natAbs ≤ k := by
  have := eqM_bnd hW k a j
  simp only [midM, if_neg (show ¬ (a < a ∨ a = a ∧ j < j) by omega), Int.add_zero]; omega
theorem midM_step (W : Nat → Nat → Int) (k a j i c : Nat) : midM W k a (j + 1) i c = if i = a ∧ c = j then midM W k a j a j + W k a * W k j else midM W k a j i c := by
  unfold midM
  by_cases h : i = a ∧ c = j
  · obtain ⟨rfl, rfl⟩ := h; simp
  · rw [if_neg h]
    congr 1
    by_cases h2 : i < a ∨ i = a ∧ c < j
    · rw [if_pos h2, if_pos (by omega)]
    · rw [if_neg h2, if_neg (by omega)]
theorem midM_next (W : Nat → Nat → Int) (k a r c : Nat) (hc : c < 4) : midM W k a 4 r c = midM W k (a + 1) 0 r c := by
  unfold midM
  congr 1
  by_cases h : r < a ∨ r = a ∧ c < 4
  · rw [if_pos h, if_pos (by omega)]
  · rw [if_neg h, if_neg (by omega)]
theorem midM_end (W : Nat → Nat → Int) (k r c : Nat) (hr : r < 4) : midM W k 4 0 r c = eqM W (k + 1) r c := by
  unfold midM
  rw [if_pos (by omega)]; rfl
theorem midR_end (W : Nat → Nat → Int) (xs : List Int) (k r : Nat) (hr : r < 4) : midR W xs k 4 r = eqR W xs (k + 1) r := by
  unfold midR
  rw [if_pos (by omega)]; rfl
def colTo (m : Nat → Nat → Int) (r : Nat → Int) (j i : Nat) (a c : Nat) : Int := if c = j ∧ a < i then r a else m a c
def det4 (m : Nat → Nat → Int) : Int := det m 4 false false false false
def fitDen (m : Nat → Nat → Int) : Int := det4 m
def fitPart (m : Nat → Nat → Int) (r : Nat → Int) (j : Nat) : Int := det4 (colTo m r j 4)
def fitG (m : Nat → Nat → Int) (r : Nat → Int) : Nat → Int
  | 0 => fitDen m
  | j + 1 => (Int.gcd (fitG m r j) (fitPart m r j) : Int)
def fitQ (m : Nat → Nat → Int) (r : Nat → Int) (j : Nat) : Int := (fitPart m r j).tdiv (fitG m r 4)
def fitD (m : Nat → Nat → Int) (r : Nat → Int) : Int := (fitDen m).tdiv (fitG m r 4)
def fitOk (m : Nat → Nat → Int) (r : Nat → Int) (j : Nat) : Bool := inR (fitQ m r j) (-1000000000000000) 1000000000000000
def fitAll (m : Nat → Nat → Int) (r : Nat → Int) : Bool := fitOk m r 0 && (fitOk m r 1 && (fitOk m r 2 && fitOk m r 3))
theorem fitAll_of {m : Nat → Nat → Int} {r : Nat → Int} (h : ∀ c, c < 4 → fitOk m r c = true) : fitAll m r = true := by
  simp [fitAll, h 0 (by omega), h 1 (by omega), h 2 (by omega), h 3 (by omega)]
theorem fitAll_not {m : Nat → Nat → Int} {r : Nat → Int} {c : Nat} (hc : c < 4) (h : fitOk m r c = false) : fitAll m r = false := by
  have h2 : c = 0 ∨ c = 1 ∨ c = 2 ∨ c = 3 := by omega
  rcases h2 with rfl | rfl | rfl | rfl <;> simp [fitAll, h]
theorem det4_bnd {m : Nat → Nat → Int} {T q : Nat} (hT : 1 ≤ T) (hT2 : T ≤ 1000000) (hq : q < 4) (hm : MB m 240 T q) : (det4 m).natAbs ≤ 849346560000000000 := by
  have h1 := det_bnd hT hq hm 4 false false false false (by omega)
  have h2 : (4 * 240) ^ 4 = 849346560000 := by decide
  have h3 : (bif ua false false false false q then 1 else T) ≤ 1000000 := by
    have hq2 : q = 0 ∨ q = 1 ∨ q = 2 ∨ q = 3 := by omega
    rcases hq2 with rfl | rfl | rfl | rfl <;> simp [ua] <;> omega
  have h4 : detB 240 T q 4 false false false false ≤ 849346560000 * 1000000 := by
    unfold detB; rw [h2]; exact Nat.mul_le_mul (Nat.le_refl _) h3
  unfold det4
  omega
def EqB (m : Nat → Nat → Int) (r : Nat → Int) : Prop := (∀ i j, (m i j).natAbs ≤ 240) ∧ ∀ i, (r i).natAbs ≤ 240000000
theorem EqB.m {m : Nat → Nat → Int} {r : Nat → Int} (h : EqB m r) : MB m 240 1 0 := fun i j _ _ => by
  have := h.1 i j; split <;> omega
theorem EqB.col {m : Nat → Nat → Int} {r : Nat → Int} (h : EqB m r) (j i : Nat) : MB (colTo m r j i) 240 1000000 j := fun a c _ _ => by
  have h1 := h.1 a c; have h2 := h.2 a
  unfold colTo
  by_cases hc : c = j
  · rw [if_pos hc]; split <;> omega
  · rw [if_neg (by omega), if_neg hc]; exact h1
theorem EqB.den {m : Nat → Nat → Int} {r : Nat → Int} (h : EqB m r) : (fitDen m).natAbs ≤ 849346560000000000 := det4_bnd (by omega) (by omega) (by omega) h.m
theorem EqB.part {m : Nat → Nat → Int} {r : Nat → Int} (h : EqB m r) (j : Nat) (hj : j < 4) : (fitPart m r j).natAbs ≤ 849346560000000000 := det4_bnd (by omega) (by omega) hj (h.col j 4)
theorem gcd_bnd (a b : Int) (B : Nat) (hb : b.natAbs ≤ B) (ha : a.natAbs ≤ B) : (Int.gcd a b : Int).natAbs ≤ B := by
  rw [Int.natAbs_natCast]
  by_cases h : a = 0
  · subst h; simpa using hb
  · exact Nat.le_trans (Nat.le_of_dvd (by omega) (Nat.gcd_dvd_left _ _)) ha
theorem EqB.g {m : Nat → Nat → Int} {r : Nat → Int} (h : EqB m r) (j : Nat) (hj : j ≤ 4) : (fitG m r j).natAbs ≤ 849346560000000000 := by
  induction j with
  | zero => exact h.den
  | succ j ih => exact gcd_bnd _ _ _ (h.part j (by omega)) (ih (by omega))
theorem fitG_ne {m : Nat → Nat → Int} {r : Nat → Int} (h : fitDen m ≠ 0) (j : Nat) : fitG m r j ≠ 0 := by
  induction j with
  | zero => exact h
  | succ j ih => simp only [fitG]; intro h2; have h3 : Int.gcd (fitG m r j) (fitPart m r j) = 0 := by omega
                 exact ih (Int.gcd_eq_zero_iff.1 h3).1
theorem fitG_pos {m : Nat → Nat → Int} {r : Nat → Int} (h : fitDen m ≠ 0) (j : Nat) : 0 < fitG m r (j + 1) := by
  have h2 := fitG_ne (r := r) h (j + 1)
  have h3 : fitG m r (j + 1) = (Int.gcd (fitG m r j) (fitPart m r j) : Int) := rfl
  omega
theorem tdiv_bnd (a b : Int) (B : Nat) (ha : a.natAbs ≤ B) : (a.tdiv b).natAbs ≤ B := by
  rw [Int.natAbs_tdiv]
  exact Nat.le_trans (Nat.div_le_self _ _) ha
theorem Sm_of {a : Int} (h : a.natAbs ≤ 849346560000000000) : Sm a := by unfold Sm; omega
theorem eq_bnd {W : Nat → Nat → Int} {xs : List Int} {n : Nat} (hW : ∀ k i, (W k i).natAbs ≤ 1) (hB : Bnd 1000000 xs) (hn : n ≤ 240) : EqB (eqM W n) (eqR W xs n) :=
  ⟨fun i j => Nat.le_trans (eqM_bnd hW n i j) (by omega), fun i => Nat.le_trans (eqR_bnd hW hB n i) (by omega)⟩
theorem colTo_zero (m : Nat → Nat → Int) (r : Nat → Int) (j : Nat) : colTo m r j 0 = m := by
  funext a c; simp [colTo]
theorem colTo_step (m : Nat → Nat → Int) (r : Nat → Int) (j a i c : Nat) : colTo m r j (a + 1) i c = if i = a ∧ c = j then r a else colTo m r j a i c := by
  unfold colTo
  by_cases h : i = a ∧ c = j
  · obtain ⟨rfl, rfl⟩ := h; simp
  · rw [if_neg h]
    by_cases h2 : c = j ∧ i < a
    · rw [if_pos h2, if_pos (by omega)]
    · rw [if_neg h2, if_neg (by omega)]
end Go.Proofs.Ytgjhikjnlcbmkaa

/- Walks: two rolls: determinants, waves, equations. -/
namespace Go.Proofs.Ytgjhikjnlcbmkaa
open Go.RowKit
set_option maxRecDepth 20000
set_option maxHeartbeats 2000000

def f4V (f : Nat → Int) : List DV := [I (f 0), I (f 1), I (f 2), I (f 3)]
def mcV (m : Nat → Nat → Int) : List DV := [I (m 0 0), I (m 0 1), I (m 0 2), I (m 0 3), I (m 1 0), I (m 1 1), I (m 1 2), I (m 1 3), I (m 2 0), I (m 2 1), I (m 2 2), I (m 2 3), I (m 3 0), I (m 3 1), I (m 3 2), I (m 3 3)]
def u4V (u : Nat → Bool) : List DV := [B (u 0), B (u 1), B (u 2), B (u 3)]
theorem lt4 {j : Nat} (h : j < 4) : j = 0 ∨ j = 1 ∨ j = 2 ∨ j = 3 := by omega
theorem f4V_get {f : Nat → Int} {j : Nat} (h : j < 4) : ((f4V f).drop (0 + (j : Int).toNat * 1))[0]? = some (I (f j)) := by
  rcases lt4 h with rfl | rfl | rfl | rfl <;> rfl
theorem f4V_ix {f : Nat → Int} {j : Nat} (h : j < 4) : (f4V f)[(j : Int).toNat * 1]? = some (I (f j)) := by
  rcases lt4 h with rfl | rfl | rfl | rfl <;> rfl
theorem f4V_set {f g : Nat → Int} {j : Nat} (h : j < 4) (v : Int) (hg : ∀ i, i < 4 → g i = if i = j then v else f i) : spl (f4V f) (0 + (j : Int).toNat * 1) [I v] = f4V g := by
  unfold f4V
  rw [hg 0 (by omega), hg 1 (by omega), hg 2 (by omega), hg 3 (by omega)]
  rcases lt4 h with rfl | rfl | rfl | rfl <;> rfl
theorem u4V_get {u : Nat → Bool} {j : Nat} (h : j < 4) : ((u4V u).drop (0 + (j : Int).toNat * 1))[0]? = some (B (u j)) := by
  rcases lt4 h with rfl | rfl | rfl | rfl <;> rfl
theorem u4V_set {u : Nat → Bool} {j : Nat} (h : j < 4) : spl (u4V u) (0 + (j : Int).toNat * 1) [B true] = u4V (fun i => bif Nat.beq i j then true else u i) := by
  rcases lt4 h with rfl | rfl | rfl | rfl <;> rfl
theorem mcV_get {m : Nat → Nat → Int} {r j : Nat} (hr : r < 4) (h : j < 4) : ((mcV m).drop (0 + (r : Int).toNat * 4 + (j : Int).toNat * 1))[0]? = some (I (m r j)) := by
  rcases lt4 hr with rfl | rfl | rfl | rfl <;> rcases lt4 h with rfl | rfl | rfl | rfl <;> rfl
theorem mcV_set {m g : Nat → Nat → Int} {r j : Nat} (hr : r < 4) (h : j < 4) (v : Int) (hg : ∀ i c, i < 4 → c < 4 → g i c = if i = r ∧ c = j then v else m i c) : spl (mcV m) (0 + (r : Int).toNat * 4 + (j : Int).toNat * 1) [I v] = mcV g := by
  unfold mcV
  rw [hg 0 0 (by omega) (by omega), hg 0 1 (by omega) (by omega), hg 0 2 (by omega) (by omega), hg 0 3 (by omega) (by omega), hg 1 0 (by omega) (by omega), hg 1 1 (by omega) (by omega), hg 1 2 (by omega) (by omega), hg 1 3 (by omega) (by omega),
    hg 2 0 (by omega) (by omega), hg 2 1 (by omega) (by omega), hg 2 2 (by omega) (by omega), hg 2 3 (by omega) (by omega), hg 3 0 (by omega) (by omega), hg 3 1 (by omega) (by omega), hg 3 2 (by omega) (by omega), hg 3 3 (by omega) (by omega)]
  rcases lt4 hr with rfl | rfl | rfl | rfl <;> rcases lt4 h with rfl | rfl | rfl | rfl <;> rfl
theorem mcV_congr {f g : Nat → Nat → Int} (h : ∀ r c, r < 4 → c < 4 → f r c = g r c) : mcV f = mcV g := by
  have := mcV_set (m := f) (g := g) (r := 0) (j := 0) (by omega) (by omega) (f 0 0) fun i c hi hc => by
    by_cases e : i = 0 ∧ c = 0
    · obtain ⟨rfl, rfl⟩ := e; rw [if_pos ⟨rfl, rfl⟩, h 0 0 (by omega) (by omega)]
    · rw [if_neg e, h i c hi hc]
  rw [← this]; rfl
theorem f4V_congr {f g : Nat → Int} (h : ∀ r, r < 4 → f r = g r) : f4V f = f4V g := by
  unfold f4V; rw [h 0 (by omega), h 1 (by omega), h 2 (by omega), h 3 (by omega)]

theorem det_sub {f : Bool → Bool → Bool → Bool → Int} {a b c d : Bool} {k : Nat} (h : k < 4) :
    f (bif Nat.beq 0 k then true else ua a b c d 0) (bif Nat.beq 1 k then true else ua a b c d 1) (bif Nat.beq 2 k then true else ua a b c d 2) (bif Nat.beq 3 k then true else ua a b c d 3) = subAt f a b c d k := by
  rcases lt4 h with rfl | rfl | rfl | rfl <;> rfl
theorem determinant_A (m : Nat → Nat → Int) (T q : Nat) (hT : 1 ≤ T) (hT2 : T ≤ 1000000) (hq : q < 4) (hm : MB m 240 T q) (n : Nat) : ∀ (a b c d : Bool) (r : Nat), n ≤ 4 → r = 4 - n →
    AC Try.prog 27 [.agg (mcV m), I r, .agg [B a, B b, B c, B d]] (I (det m n a b c d)) := by
  induction n with
  | zero =>
    intro a b c d r _ hr
    refine ac_body Try.func27 rfl (by kernel_rfl) fun w0 ok => ?_; show AWp _ (ctx0 w0 ok _) _ (ARet _ _ _) (entry _)
    (repeat' (first | (with_reducible first | intro hg | refine mv (by constructor) ?_) | ((with_reducible first | refine zR ?_ ?_ | refine zW mixed ?_ ?_); exact kr) | ((with_reducible apply zK); exact rfl; exact tf) | ((with_reducible apply zCD); exact rfl) | ((with_reducible apply zCN); exact rfl) | ((with_reducible apply zC); exact rfl) | ((with_reducible refine zX ?_ ?_); exact rfl) | ((with_reducible refine zE (And.intro ?_ ?_)); exact kr) | (with_reducible refine zE ?_) | ((with_reducible apply zP); exact dp) | ((with_reducible apply zN); exact dn) | ((with_reducible apply zA); exact da) | ((with_reducible apply zS); exact ds) | ((with_reducible apply zY); exact rfl; exact rfl; exact tf) | ((with_reducible apply zG); exact rfl; exact rfl; exact tf) | ((with_reducible apply zU); exact rfl; exact rfl) | ((with_reducible apply zD); exact rfl; exact rfl) | ((with_reducible apply zB); exact rfl; exact rfl)))
    ((with_reducible first | apply q_retR | apply q_retN); exact rl)
    rfl
  | succ n ih =>
    intro a b c d r hn hr
    have hr3 : r = 3 - n := by omega
    have hr4 : r < 4 := by omega
    have hsb := fun k hk => detSt_bnd (f := det m n) (e := m (3 - n)) hT hq (fun j hj => hm _ j (by omega) hj) (fun a b c d => det_bnd hT hq hm n a b c d (by omega)) a b c d k hk
    have hdB : detB 240 T q n a b c d ≤ 884736000000000 := by
      have h1 : (4 * 240) ^ n ≤ (4 * 240) ^ 3 := Nat.pow_le_pow_right (by omega) (by omega)
      have h2 : (4 * 240) ^ 3 = 884736000 := by decide
      have h3 : (bif ua a b c d q then 1 else T) ≤ 1000000 := by cases ua a b c d q <;> simp <;> omega
      unfold detB
      calc (4 * 240) ^ n * (bif ua a b c d q then 1 else T) ≤ 884736000 * 1000000 := Nat.mul_le_mul (by omega) h3
        _ = 884736000000000 := by decide
    refine ac_body Try.func27 rfl (by kernel_rfl) fun w0 ok => ?_; show AWp _ (ctx0 w0 ok _) _ (ARet _ _ _) (entry _)
    (repeat' (first | (with_reducible first | intro hg | refine mv (by constructor) ?_) | ((with_reducible first | refine zR ?_ ?_ | refine zW mixed ?_ ?_); exact kr) | ((with_reducible apply zK); exact rfl; exact tf) | ((with_reducible apply zCD); exact rfl) | ((with_reducible apply zCN); exact rfl) | ((with_reducible apply zC); exact rfl) | ((with_reducible refine zX ?_ ?_); exact rfl) | ((with_reducible refine zE (And.intro ?_ ?_)); exact kr) | (with_reducible refine zE ?_) | ((with_reducible apply zP); exact dp) | ((with_reducible apply zN); exact dn) | ((with_reducible apply zA); exact da) | ((with_reducible apply zS); exact ds) | ((with_reducible apply zY); exact rfl; exact rfl; exact tf) | ((with_reducible apply zG); exact rfl; exact rfl; exact tf) | ((with_reducible apply zU); exact rfl; exact rfl) | ((with_reducible apply zD); exact rfl; exact rfl) | ((with_reducible apply zB); exact rfl; exact rfl)))
    refine awp_loopL (α := Nat) (fun k => [(1, .d (I r)), (3, .ptr 3 0), (5, .ptr 5 0), (7, .d (I (detSt (det m n) (m (3 - n)) a b c d k).2)), (8, .d (I (detSt (det m n) (m (3 - n)) a b c d k).1)), (14, .d (I k))])
      (fun k => [(3, ⟨75, mcV m⟩), (5, ⟨79, u4V (ua a b c d)⟩)]) (fun k => k ≤ 4) (fun k => 4 - k) 0 (Nat.zero_le _) (And.intro rfl (And.intro rfl (And.intro rfl (And.intro rfl (And.intro rfl (And.intro rfl trivial)))))) (And.intro rfl (And.intro rfl trivial)) fun k hk => ?_
    by_cases hlt : k < 4
    · have hst : detSt (det m n) (m (3 - n)) a b c d (k + 1) = detStep (detSt (det m n) (m (3 - n)) a b c d k) (ua a b c d k) (m (3 - n) k) (subAt (det m n) a b c d k) := rfl
      cases hu : ua a b c d k
      · rw [hu] at hst
        have hsg := detSt_sign (det m n) (m (3 - n)) a b c d k
        have hsb := Nat.le_trans (hsb k hk) (Nat.mul_le_mul_right _ (show k ≤ 4 by omega))
        have ht := term_bnd (f := det m n) (e := m (3 - n)) hT hq (fun j hj => hm _ j (by omega) hj) (fun a b c d => det_bnd hT hq hm n a b c d (by omega)) a b c d k hlt hu
        have hE2 : (m (3 - n) k).natAbs ≤ 240000000 := Nat.le_trans (hm (3 - n) k (by omega) hlt) (by split <;> omega)
        have hsubc : ∀ r', r' = 4 - n → AC Try.prog 27 [.agg (mcV m), I (r' : Nat), .agg (u4V (fun i => bif Nat.beq i k then true else ua a b c d i))] (I (subAt (det m n) a b c d k)) := fun r' hr' => by
          rw [← det_sub hlt]
          exact ih _ _ _ _ r' (by omega) hr'
        have hsubc := hsubc (r + 1) (by omega)
        have hget : ((mcV m).drop (0 + (r : Int).toNat * 4 + (k : Int).toNat * 1))[0]? = some (I (m (3 - n) k)) := by rw [← hr3]; exact mcV_get hr4 hlt
        generalize (detSt (det m n) (m (3 - n)) a b c d k) = st at *
        generalize subAt (det m n) a b c d k = sub at *
        generalize m (3 - n) k = e at *
        have g1 : st.1 ≤ 1 ∧ -1 ≤ st.1 := by omega
        have hGE : (st.1 * e).natAbs = e.natAbs := by rcases hsg with h | h <;> rw [h] <;> omega
        have hGED : (st.1 * e * sub).natAbs = (e * sub).natAbs := by rw [Int.mul_assoc]; rcases hsg with h | h <;> rw [h] <;> omega
        have t1 : -240000000 ≤ st.1 * e ∧ st.1 * e ≤ 240000000 := by omega
        have t3 : -212336640000000000 ≤ st.1 * e * sub ∧ st.1 * e * sub ≤ 212336640000000000 := by omega
        have t5 : -849346560000000000 ≤ st.2 ∧ st.2 ≤ 849346560000000000 := by omega
        clear hGE hGED hsg ht hsb hE2
        (repeat' (first | (with_reducible first | intro hg | refine mv (by constructor) ?_) | ((with_reducible first | refine zR ?_ ?_ | refine zW mixed ?_ ?_); exact kr) | ((with_reducible apply zK); exact rfl; exact tf) | ((with_reducible apply zCD); exact rfl) | ((with_reducible apply zCN); exact rfl) | ((with_reducible apply zC); exact rfl) | ((with_reducible refine zX ?_ ?_); exact rfl) | ((with_reducible refine zE (And.intro ?_ ?_)); exact kr) | (with_reducible refine zE ?_) | ((with_reducible apply zP); (first | exact o_load1 rfl rfl (u4V_get hlt) | exact o_load1 rfl rfl hget | exact dp | exact oc rfl (hsubc))) | ((with_reducible apply zN); exact dn) | ((with_reducible apply zA); exact da) | ((with_reducible apply zS); (first | exact o_store rfl rfl rfl rfl (by rfl) (by show _ ≤ 4; omega) (u4V_set hlt) | exact ds)) | ((with_reducible apply zY); exact rfl; exact rfl; exact tf) | ((with_reducible apply zG); exact rfl; exact rfl; exact tf) | ((with_reducible apply zU); exact rfl; exact rfl) | ((with_reducible apply zD); exact rfl; exact rfl) | ((with_reducible apply zB); exact rfl; exact rfl)))
        · refine ⟨k + 1, by omega, by omega, (And.intro rfl (And.intro rfl (And.intro rfl (And.intro (congrArg (fun x => AV.d (I x)) (congrArg Prod.snd hst).symm) (And.intro (congrArg (fun x => AV.d (I x)) (congrArg Prod.fst hst).symm) (And.intro (rfl) trivial)))))), (And.intro rfl (And.intro rfl trivial))⟩
        · have h0 : e = 0 := by omega
          subst h0
          refine ⟨k + 1, by omega, by omega, (And.intro rfl (And.intro rfl (And.intro rfl (And.intro (congrArg (fun x => AV.d (I x)) (by rw [hst]; show _ = st.2 + st.1 * 0 * sub; rw [Int.mul_zero, Int.zero_mul, Int.add_zero])) (And.intro (congrArg (fun x => AV.d (I x)) (congrArg Prod.fst hst).symm) (And.intro (rfl) trivial)))))), (And.intro rfl (And.intro rfl trivial))⟩
      · rw [hu] at hst
        (repeat' (first | (with_reducible first | intro hg | refine mv (by constructor) ?_) | ((with_reducible first | refine zR ?_ ?_ | refine zW mixed ?_ ?_); exact kr) | ((with_reducible apply zK); exact rfl; exact tf) | ((with_reducible apply zCD); exact rfl) | ((with_reducible apply zCN); exact rfl) | ((with_reducible apply zC); exact rfl) | ((with_reducible refine zX ?_ ?_); exact rfl) | ((with_reducible refine zE (And.intro ?_ ?_)); exact kr) | (with_reducible refine zE ?_) | ((with_reducible apply zP); (first | exact o_load1 rfl rfl (u4V_get hlt) | exact dp)) | ((with_reducible apply zN); exact dn) | ((with_reducible apply zA); exact da) | ((with_reducible apply zS); exact ds) | ((with_reducible apply zY); exact rfl; exact rfl; exact tf) | ((with_reducible apply zG); exact rfl; exact rfl; exact tf) | ((with_reducible apply zU); exact rfl; exact rfl) | ((with_reducible apply zD); exact rfl; exact rfl) | ((with_reducible apply zB); exact rfl; exact rfl)))
        refine ⟨k + 1, by omega, by omega, (And.intro rfl (And.intro rfl (And.intro rfl (And.intro (congrArg (fun x => AV.d (I x)) (congrArg Prod.snd hst).symm) (And.intro (congrArg (fun x => AV.d (I x)) (congrArg Prod.fst hst).symm) (And.intro (rfl) trivial)))))), (And.intro rfl (And.intro rfl trivial))⟩
    · have hk4 : k = 4 := by omega
      subst hk4
      (repeat' (first | (with_reducible first | intro hg | refine mv (by constructor) ?_) | ((with_reducible first | refine zR ?_ ?_ | refine zW mixed ?_ ?_); exact kr) | ((with_reducible apply zK); exact rfl; exact tf) | ((with_reducible apply zCD); exact rfl) | ((with_reducible apply zCN); exact rfl) | ((with_reducible apply zC); exact rfl) | ((with_reducible refine zX ?_ ?_); exact rfl) | ((with_reducible refine zE (And.intro ?_ ?_)); exact kr) | (with_reducible refine zE ?_) | ((with_reducible apply zP); exact dp) | ((with_reducible apply zN); exact dn) | ((with_reducible apply zA); exact da) | ((with_reducible apply zS); exact ds) | ((with_reducible apply zY); exact rfl; exact rfl; exact tf) | ((with_reducible apply zG); exact rfl; exact rfl; exact tf) | ((with_reducible apply zU); exact rfl; exact rfl) | ((with_reducible apply zD); exact rfl; exact rfl) | ((with_reducible apply zB); exact rfl; exact rfl)))
      ((with_reducible first | apply q_retR | apply q_retN); exact rl)
      rfl

end Go.Proofs.Ytgjhikjnlcbmkaa

/- Walks: two rolls: their errors, waves and equations. -/
namespace Go.Proofs.Ytgjhikjnlcbmkaa
open Go.RowKit
set_option maxRecDepth 20000
set_option maxHeartbeats 2000000

abbrev drums2 (nm0 : ByteArray) (p0 o0 : Int) (nm1 : ByteArray) (p1 o1 : Int) : DV := .agg [S nm0, I p0, I o0, S nm1, I p1, I o1]
abbrev pairV (nm0 : ByteArray) (p0 o0 : Int) (nm1 : ByteArray) (p1 o1 : Int) (xs : List Int) : DV := .agg [S nm0, I p0, I o0, S nm1, I p1, I o1, isl xs]
theorem openPair_A (xs : List Int) (nm0 : ByteArray) (p0 o0 : Int) (nm1 : ByteArray) (p1 o1 : Int) (hm : xs.length ≤ 140737488355328) (hs0 : nm0.size ≤ 140737488355328) (hp0 : I64 p0) (hs1 : nm1.size ≤ 140737488355328) (hp1 : I64 p1) :
    AC Try.prog 25 [isl xs, drums2 nm0 p0 o0 nm1 p1 o1] (.tuple [pairV nm0 p0 o0 nm1 p1 o1 xs, I (pairErr xs nm0 p0 o0 nm1 p1 o1)]) := by
  refine ac_body Try.func25 rfl (by kernel_rfl) fun w0 ok => ?_; show AWp _ (ctx0 w0 ok _) _ (ARet _ _ _) (entry _)
  (repeat' (first | (with_reducible first | intro hg | refine mv (by constructor) ?_) | ((with_reducible first | refine zR ?_ ?_ | refine zW mixed ?_ ?_); exact kr) | ((with_reducible apply zK); exact rfl; exact tf) | ((with_reducible apply zCD); exact rfl) | ((with_reducible apply zCN); exact rfl) | ((with_reducible apply zC); exact rfl) | ((with_reducible refine zX ?_ ?_); exact rfl) | ((with_reducible refine zE (And.intro ?_ ?_)); exact kr) | (with_reducible refine zE ?_) | ((with_reducible apply zP); (first | exact dp | exact oc rfl (checkRecord_A _ hm) | exact oc rfl (checkDrum_A nm0 p0 o0 hs0 hp0) | exact oc rfl (checkDrum_A nm1 p1 o1 hs1 hp1) | exact oc rfl (first3_A _ _ _))) | ((with_reducible apply zN); exact dn) | ((with_reducible apply zA); exact da) | ((with_reducible apply zS); exact ds) | ((with_reducible apply zY); exact rfl; exact rfl; exact tf) | ((with_reducible apply zG); exact rfl; exact rfl; exact tf) | ((with_reducible apply zU); exact rfl; exact rfl) | ((with_reducible apply zD); exact rfl; exact rfl) | ((with_reducible apply zB); exact rfl; exact rfl)))
  ((with_reducible first | apply q_retR | apply q_retN); exact rl)
  rfl
theorem bpair_A (xs : List Int) (nm0 : ByteArray) (p0 o0 : Int) (nm1 : ByteArray) (p1 o1 : Int) (hm : xs.length ≤ 140737488355328) (hs0 : nm0.size ≤ 140737488355328) (hs1 : nm1.size ≤ 140737488355328) :
    AC Try.prog 10 [isl xs, drums2 nm0 p0 o0 nm1 p1 o1] (I (pairErr xs nm0 p0 o0 nm1 p1 o1)) := by
  have hb : bothErr xs nm0 p0 o0 = fst0 [recErr xs, drumErr nm0 p0 o0] := rfl
  refine ac_body Try.func10 rfl (by kernel_rfl) fun w0 ok => ?_; show AWp _ (ctx0 w0 ok _) _ (ARet _ _ _) (entry _)
  (repeat' (first | (with_reducible first | intro hg | refine mv (by constructor) ?_) | ((with_reducible first | refine zR ?_ ?_ | refine zW mixed ?_ ?_); exact kr) | ((with_reducible apply zK); exact rfl; exact tf) | ((with_reducible apply zCD); exact rfl) | ((with_reducible apply zCN); exact rfl) | ((with_reducible apply zC); exact rfl) | ((with_reducible refine zX ?_ ?_); exact rfl) | ((with_reducible refine zE (And.intro ?_ ?_)); exact kr) | (with_reducible refine zE ?_) | ((with_reducible apply zP); (first | exact dp | exact oc rfl (both_A _ nm0 p0 o0 hm hs0) | exact oc rfl (bDrum_A nm1 p1 o1 hs1))) | ((with_reducible apply zN); exact dn) | ((with_reducible apply zA); exact da) | ((with_reducible apply zS); exact ds) | ((with_reducible apply zY); exact rfl; exact rfl; exact tf) | ((with_reducible apply zG); exact rfl; exact rfl; exact tf) | ((with_reducible apply zU); exact rfl; exact rfl) | ((with_reducible apply zD); exact rfl; exact rfl) | ((with_reducible apply zB); exact rfl; exact rfl)))
  all_goals ((with_reducible first | apply q_retR | apply q_retN); exact rl)
  · refine rt_int ?_
    unfold pairErr
    by_cases h : recErr xs = 0
    · rw [hb, h, fst0_zero, fst0_one] at hg
      rw [hb, h, fst0_zero, fst0_zero, fst0_one, fst0_ne hg]
    · rw [hb, fst0_ne h, fst0_ne h]
  · have h0 := Decidable.not_not.1 hg
    rw [hb] at h0
    obtain ⟨h1, h2⟩ := fst0_cons h0
    have h2 := (fst0_cons h2).1
    exact rt_int (by unfold pairErr; rw [h1, h2, fst0_zero, fst0_zero, fst0_one])

theorem pwaves_A (nm0 nm1 : ByteArray) (p0 o0 p1 o1 : Int) (xs : List Int) (k : Int) (hd0 : Drum p0 o0) (hd1 : Drum p1 o1) (hk0 : 0 ≤ k) (hk1 : k ≤ 1000000) :
    AC Try.prog 46 [pairV nm0 p0 o0 nm1 p1 o1 xs, I k] (.agg (f4V (W4 p0 o0 p1 o1 k))) := by
  have c0 := wave_A nm0 p0 o0 1 0 k _ _ hd0 hk0 hk1 rep_one rep_zero (by decide) (by decide)
  have c1 := wave_A nm0 p0 o0 0 1 k _ _ hd0 hk0 hk1 rep_zero rep_one (by decide) (by decide)
  have c2 := wave_A nm1 p1 o1 1 0 k _ _ hd1 hk0 hk1 rep_one rep_zero (by decide) (by decide)
  have c3 := wave_A nm1 p1 o1 0 1 k _ _ hd1 hk0 hk1 rep_zero rep_one (by decide) (by decide)
  refine ac_body Try.func46 rfl (by kernel_rfl) fun w0 ok => ?_; show AWp _ (ctx0 w0 ok _) _ (ARet _ _ _) (entry _)
  (repeat' (first | (with_reducible first | intro hg | refine mv (by constructor) ?_) | ((with_reducible first | refine zR ?_ ?_ | refine zW mixed ?_ ?_); exact kr) | ((with_reducible apply zK); exact rfl; exact tf) | ((with_reducible apply zCD); exact rfl) | ((with_reducible apply zCN); exact rfl) | ((with_reducible apply zC); exact rfl) | ((with_reducible refine zX ?_ ?_); exact rfl) | ((with_reducible refine zE (And.intro ?_ ?_)); exact kr) | (with_reducible refine zE ?_) | ((with_reducible apply zP); exact dp) | ((with_reducible apply zN); exact dn) | ((with_reducible apply zA); exact da) | ((with_reducible apply zS); exact ds) | ((with_reducible apply zY); exact rfl; exact rfl; exact tf) | ((with_reducible apply zG); exact rfl; exact rfl; exact tf) | ((with_reducible apply zU); exact rfl; exact rfl) | ((with_reducible apply zD); exact rfl; exact rfl) | ((with_reducible apply zB); exact rfl; exact rfl)))
  refine awp_loopL (α := Nat) (fun i => [(1, .d (I k)), (2, .ptr 2 0), (4, .ptr 4 0), (5, .ptr 5 0), (7, .d (I i))])
    (fun i => [(2, ⟨72, [S nm0, I p0, I o0, S nm1, I p1, I o1, isl xs]⟩), (4, ⟨32, [I 0, I 0, I 0, I 0]⟩), (5, ⟨32, f4V (fun c => if c < i then W4 p0 o0 p1 o1 k c else 0)⟩)]) (fun i => i ≤ 4) (fun i => 4 - i) 0 (Nat.zero_le _) (And.intro rfl (And.intro rfl (And.intro rfl (And.intro rfl (And.intro rfl trivial))))) (And.intro rfl (And.intro rfl (And.intro rfl trivial))) fun i hi => ?_
  by_cases hlt : i < 4
  · rcases lt4 hlt with rfl | rfl | rfl | rfl
    · (repeat' (first | (with_reducible first | intro hg | refine mv (by constructor) ?_) | ((with_reducible first | refine zR ?_ ?_ | refine zW mixed ?_ ?_); exact kr) | ((with_reducible apply zK); exact rfl; exact tf) | ((with_reducible apply zCD); exact rfl) | ((with_reducible apply zCN); exact rfl) | ((with_reducible apply zC); exact rfl) | ((with_reducible refine zX ?_ ?_); exact rfl) | ((with_reducible refine zE (And.intro ?_ ?_)); exact kr) | (with_reducible refine zE ?_) | ((with_reducible apply zP); (first | exact dp | exact oc rfl (c0) | exact oc rfl (c1) | exact oc rfl (c2) | exact oc rfl (c3))) | ((with_reducible apply zN); exact dn) | ((with_reducible apply zA); exact da) | ((with_reducible apply zS); exact ds) | ((with_reducible apply zY); exact rfl; exact rfl; exact tf) | ((with_reducible apply zG); exact rfl; exact rfl; exact tf) | ((with_reducible apply zU); exact rfl; exact rfl) | ((with_reducible apply zD); exact rfl; exact rfl) | ((with_reducible apply zB); exact rfl; exact rfl)))
      refine ⟨1, by omega, by omega, (And.intro rfl (And.intro rfl (And.intro rfl (And.intro rfl (And.intro rfl trivial))))), (And.intro rfl (And.intro rfl (And.intro rfl trivial)))⟩
    · (repeat' (first | (with_reducible first | intro hg | refine mv (by constructor) ?_) | ((with_reducible first | refine zR ?_ ?_ | refine zW mixed ?_ ?_); exact kr) | ((with_reducible apply zK); exact rfl; exact tf) | ((with_reducible apply zCD); exact rfl) | ((with_reducible apply zCN); exact rfl) | ((with_reducible apply zC); exact rfl) | ((with_reducible refine zX ?_ ?_); exact rfl) | ((with_reducible refine zE (And.intro ?_ ?_)); exact kr) | (with_reducible refine zE ?_) | ((with_reducible apply zP); (first | exact dp | exact oc rfl (c0) | exact oc rfl (c1) | exact oc rfl (c2) | exact oc rfl (c3))) | ((with_reducible apply zN); exact dn) | ((with_reducible apply zA); exact da) | ((with_reducible apply zS); exact ds) | ((with_reducible apply zY); exact rfl; exact rfl; exact tf) | ((with_reducible apply zG); exact rfl; exact rfl; exact tf) | ((with_reducible apply zU); exact rfl; exact rfl) | ((with_reducible apply zD); exact rfl; exact rfl) | ((with_reducible apply zB); exact rfl; exact rfl)))
      refine ⟨2, by omega, by omega, (And.intro rfl (And.intro rfl (And.intro rfl (And.intro rfl (And.intro rfl trivial))))), (And.intro rfl (And.intro rfl (And.intro rfl trivial)))⟩
    · (repeat' (first | (with_reducible first | intro hg | refine mv (by constructor) ?_) | ((with_reducible first | refine zR ?_ ?_ | refine zW mixed ?_ ?_); exact kr) | ((with_reducible apply zK); exact rfl; exact tf) | ((with_reducible apply zCD); exact rfl) | ((with_reducible apply zCN); exact rfl) | ((with_reducible apply zC); exact rfl) | ((with_reducible refine zX ?_ ?_); exact rfl) | ((with_reducible refine zE (And.intro ?_ ?_)); exact kr) | (with_reducible refine zE ?_) | ((with_reducible apply zP); (first | exact dp | exact oc rfl (c0) | exact oc rfl (c1) | exact oc rfl (c2) | exact oc rfl (c3))) | ((with_reducible apply zN); exact dn) | ((with_reducible apply zA); exact da) | ((with_reducible apply zS); exact ds) | ((with_reducible apply zY); exact rfl; exact rfl; exact tf) | ((with_reducible apply zG); exact rfl; exact rfl; exact tf) | ((with_reducible apply zU); exact rfl; exact rfl) | ((with_reducible apply zD); exact rfl; exact rfl) | ((with_reducible apply zB); exact rfl; exact rfl)))
      refine ⟨3, by omega, by omega, (And.intro rfl (And.intro rfl (And.intro rfl (And.intro rfl (And.intro rfl trivial))))), (And.intro rfl (And.intro rfl (And.intro rfl trivial)))⟩
    · (repeat' (first | (with_reducible first | intro hg | refine mv (by constructor) ?_) | ((with_reducible first | refine zR ?_ ?_ | refine zW mixed ?_ ?_); exact kr) | ((with_reducible apply zK); exact rfl; exact tf) | ((with_reducible apply zCD); exact rfl) | ((with_reducible apply zCN); exact rfl) | ((with_reducible apply zC); exact rfl) | ((with_reducible refine zX ?_ ?_); exact rfl) | ((with_reducible refine zE (And.intro ?_ ?_)); exact kr) | (with_reducible refine zE ?_) | ((with_reducible apply zP); (first | exact dp | exact oc rfl (c0) | exact oc rfl (c1) | exact oc rfl (c2) | exact oc rfl (c3))) | ((with_reducible apply zN); exact dn) | ((with_reducible apply zA); exact da) | ((with_reducible apply zS); exact ds) | ((with_reducible apply zY); exact rfl; exact rfl; exact tf) | ((with_reducible apply zG); exact rfl; exact rfl; exact tf) | ((with_reducible apply zU); exact rfl; exact rfl) | ((with_reducible apply zD); exact rfl; exact rfl) | ((with_reducible apply zB); exact rfl; exact rfl)))
      refine ⟨4, by omega, by omega, (And.intro rfl (And.intro rfl (And.intro rfl (And.intro rfl (And.intro rfl trivial))))), (And.intro rfl (And.intro rfl (And.intro rfl trivial)))⟩
  · have hk4 : i = 4 := by omega
    subst hk4
    (repeat' (first | (with_reducible first | intro hg | refine mv (by constructor) ?_) | ((with_reducible first | refine zR ?_ ?_ | refine zW mixed ?_ ?_); exact kr) | ((with_reducible apply zK); exact rfl; exact tf) | ((with_reducible apply zCD); exact rfl) | ((with_reducible apply zCN); exact rfl) | ((with_reducible apply zC); exact rfl) | ((with_reducible refine zX ?_ ?_); exact rfl) | ((with_reducible refine zE (And.intro ?_ ?_)); exact kr) | (with_reducible refine zE ?_) | ((with_reducible apply zP); exact dp) | ((with_reducible apply zN); exact dn) | ((with_reducible apply zA); exact da) | ((with_reducible apply zS); exact ds) | ((with_reducible apply zY); exact rfl; exact rfl; exact tf) | ((with_reducible apply zG); exact rfl; exact rfl; exact tf) | ((with_reducible apply zU); exact rfl; exact rfl) | ((with_reducible apply zD); exact rfl; exact rfl) | ((with_reducible apply zB); exact rfl; exact rfl)))
    ((with_reducible first | apply q_retR | apply q_retN); exact rl)
    rfl

theorem equations_A (nm0 nm1 : ByteArray) (p0 o0 p1 o1 : Int) (xs : List Int) (hm : xs.length ≤ 1000) (hB : Bnd 1000000 xs) (hd0 : Drum p0 o0) (hd1 : Drum p1 o1) (W : Nat → Nat → Int) (hW : ∀ k i, W k i = W4 p0 o0 p1 o1 k i) :
    AC Try.prog 26 [pairV nm0 p0 o0 nm1 p1 o1 xs] (.tuple [.agg (mcV (eqM W xs.length)), .agg (f4V (eqR W xs xs.length))]) := by
  have hW1 : ∀ k i, (W k i).natAbs ≤ 1 := fun k i => by rw [hW]; exact W4_one _ _ _ _ _ _
  have hcw : ∀ k : Nat, k ≤ 1000 → AC Try.prog 46 [pairV nm0 p0 o0 nm1 p1 o1 xs, I k] (.agg (f4V (W k))) := fun k hk => by
    have h1 := pwaves_A nm0 nm1 p0 o0 p1 o1 xs k hd0 hd1 (by omega) (by omega)
    rwa [show W4 p0 o0 p1 o1 k = W k from funext fun i => (hW k i).symm] at h1
  refine ac_body Try.func26 rfl (by kernel_rfl) fun w0 ok => ?_; show AWp _ (ctx0 w0 ok _) _ (ARet _ _ _) (entry _)
  (repeat' (first | (with_reducible first | intro hg | refine mv (by constructor) ?_) | ((with_reducible first | refine zR ?_ ?_ | refine zW mixed ?_ ?_); exact kr) | ((with_reducible apply zK); exact rfl; exact tf) | ((with_reducible apply zCD); exact rfl) | ((with_reducible apply zCN); exact rfl) | ((with_reducible apply zC); exact rfl) | ((with_reducible refine zX ?_ ?_); exact rfl) | ((with_reducible refine zE (And.intro ?_ ?_)); exact kr) | (with_reducible refine zE ?_) | ((with_reducible apply zP); exact dp) | ((with_reducible apply zN); exact dn) | ((with_reducible apply zA); exact da) | ((with_reducible apply zS); exact ds) | ((with_reducible apply zY); exact rfl; exact rfl; exact tf) | ((with_reducible apply zG); exact rfl; exact rfl; exact tf) | ((with_reducible apply zU); exact rfl; exact rfl) | ((with_reducible apply zD); exact rfl; exact rfl) | ((with_reducible apply zB); exact rfl; exact rfl)))
  refine awp_loopL (α := Nat) (fun k => [(1, .ptr 1 0), (2, .ptr 2 0), (3, .ptr 3 0), (12, .d (isl xs)), (13, .d (I xs.length)), (14, .d (I k))])
    (fun k => [(1, ⟨72, [S nm0, I p0, I o0, S nm1, I p1, I o1, isl xs]⟩), (2, ⟨75, mcV (eqM W k)⟩), (3, ⟨32, f4V (eqR W xs k)⟩)]) (fun k => k ≤ xs.length) (fun k => xs.length - k) 0 (Nat.zero_le _) (And.intro rfl (And.intro rfl (And.intro rfl (And.intro rfl (And.intro rfl (And.intro rfl trivial)))))) (And.intro rfl (And.intro rfl (And.intro rfl trivial))) fun k hk => ?_
  by_cases hlt : k < xs.length
  · obtain ⟨v1, v2⟩ := nth_bnd hB hlt
    (repeat' (first | (with_reducible first | intro hg | refine mv (by constructor) ?_) | ((with_reducible first | refine zR ?_ ?_ | refine zW mixed ?_ ?_); exact kr) | ((with_reducible apply zK); exact rfl; exact tf) | ((with_reducible apply zCD); exact rfl) | ((with_reducible apply zCN); exact rfl) | ((with_reducible apply zC); exact rfl) | ((with_reducible refine zX ?_ ?_); exact rfl) | ((with_reducible refine zE (And.intro ?_ ?_)); exact kr) | (with_reducible refine zE ?_) | ((with_reducible apply zP); (first | exact dp | exact oc rfl (hcw k (by omega)))) | ((with_reducible apply zN); exact dn) | ((with_reducible apply zA); exact da) | ((with_reducible apply zS); exact ds) | ((with_reducible apply zY); exact rfl; exact rfl; exact tf) | ((with_reducible apply zG); exact rfl; exact rfl; exact tf) | ((with_reducible apply zU); exact rfl; exact rfl) | ((with_reducible apply zD); exact rfl; exact rfl) | ((with_reducible apply zB); exact rfl; exact rfl)))
    refine awp_loopL (α := Nat) (fun a => [(1, .ptr 1 0), (2, .ptr 2 0), (3, .ptr 3 0), (5, .d (I (nth xs k))), (6, .ptr 6 0), (12, .d (isl xs)), (13, .d (I xs.length)), (14, .d (I k)), (22, .d (.agg (f4V (W k)))), (23, .d (I a))])
      (fun a => [(1, ⟨72, [S nm0, I p0, I o0, S nm1, I p1, I o1, isl xs]⟩), (2, ⟨75, mcV (midM W k a 0)⟩), (3, ⟨32, f4V (midR W xs k a)⟩), (6, ⟨32, f4V (W k)⟩)]) (fun a => a ≤ 4) (fun a => 4 - a) 0 (Nat.zero_le _) (And.intro rfl (And.intro rfl (And.intro rfl (And.intro rfl (And.intro rfl (And.intro rfl (And.intro rfl (And.intro rfl (And.intro rfl (And.intro rfl trivial)))))))))) (And.intro rfl (And.intro (congrArg (fun m => some (Blk.mk _ (mcV m))) (mid_start W k).symm) (And.intro (congrArg (fun m => some (Blk.mk _ (f4V m))) (midR_start W xs k).symm) (And.intro (rfl) trivial)))) fun a ha => ?_
    by_cases ha4 : a < 4
    · have hw := hW1 k a
      have hm1 : -1000000 ≤ W k a * nth xs k ∧ W k a * nth xs k ≤ 1000000 := by
        have := mul_one_bnd (b := nth xs k) (B := 1000000) hw (by omega); omega
      have hr1 := midR_bnd hW1 hB k a a (Nat.le_refl _)
      have hr2 : k * 1000000 ≤ 1000000000 := by omega
      have hr3 : -1000000000 ≤ midR W xs k a a ∧ midR W xs k a a ≤ 1000000000 := by omega
      clear hr1 hr2
      have hrs : ∀ i, i < 4 → midR W xs k (a + 1) i = if i = a then midR W xs k a a + W k a * nth xs k else midR W xs k a i := fun i hi => by
        have h1 := midR_step W xs k a hlt i hi
        have : nth xs k = xs[k] := by unfold nth; rw [List.getD_eq_getElem?_getD, List.getElem?_eq_getElem hlt]; rfl
        rw [this]; exact h1
      (repeat' (first | (with_reducible first | intro hg | refine mv (by constructor) ?_) | ((with_reducible first | refine zR ?_ ?_ | refine zW mixed ?_ ?_); exact kr) | ((with_reducible apply zK); exact rfl; exact tf) | ((with_reducible apply zCD); exact rfl) | ((with_reducible apply zCN); exact rfl) | ((with_reducible apply zC); exact rfl) | ((with_reducible refine zX ?_ ?_); exact rfl) | ((with_reducible refine zE (And.intro ?_ ?_)); exact kr) | (with_reducible refine zE ?_) | ((with_reducible apply zP); (first | exact o_index rfl rfl (by omega) (by omega) (f4V_ix ha4) | exact o_load1 rfl rfl (f4V_get ha4) | exact dp)) | ((with_reducible apply zN); exact dn) | ((with_reducible apply zA); exact da) | ((with_reducible apply zS); (first | exact o_store rfl rfl rfl rfl (by rfl) (by show _ ≤ 4; omega) (f4V_set ha4 _ hrs) | exact ds)) | ((with_reducible apply zY); exact rfl; exact rfl; exact tf) | ((with_reducible apply zG); exact rfl; exact rfl; exact tf) | ((with_reducible apply zU); exact rfl; exact rfl) | ((with_reducible apply zD); exact rfl; exact rfl) | ((with_reducible apply zB); exact rfl; exact rfl)))
      refine awp_loopL (α := Nat) (fun j => [(1, .ptr 1 0), (2, .ptr 2 0), (3, .ptr 3 0), (5, .d (I (nth xs k))), (6, .ptr 6 0), (7, .d (I a)), (8, .d (I (W k a))), (12, .d (isl xs)), (13, .d (I xs.length)), (14, .d (I k)), (22, .d (.agg (f4V (W k)))), (23, .d (I a)), (35, .d (.agg (f4V (W k)))), (36, .d (I j))])
        (fun j => [(1, ⟨72, [S nm0, I p0, I o0, S nm1, I p1, I o1, isl xs]⟩), (2, ⟨75, mcV (midM W k a j)⟩), (3, ⟨32, f4V (midR W xs k (a + 1))⟩), (6, ⟨32, f4V (W k)⟩)]) (fun j => j ≤ 4) (fun j => 4 - j) 0 (Nat.zero_le _) (And.intro rfl (And.intro rfl (And.intro rfl (And.intro rfl (And.intro rfl (And.intro rfl (And.intro rfl (And.intro rfl (And.intro rfl (And.intro rfl (And.intro rfl (And.intro rfl (And.intro rfl (And.intro rfl trivial)))))))))))))) (And.intro rfl (And.intro rfl (And.intro rfl (And.intro rfl trivial)))) fun j hj => ?_
      by_cases hj4 : j < 4
      · have hw2 := hW1 k j
        have hm2 : -1 ≤ W k a * W k j ∧ W k a * W k j ≤ 1 := by
          have := mul_one_bnd (b := W k j) (B := 1) hw hw2; omega
        have hr1 := midM_bnd hW1 k a j
        have hr3 : -1000 ≤ midM W k a j a j ∧ midM W k a j a j ≤ 1000 := by omega
        clear hr1
        (repeat' (first | (with_reducible first | intro hg | refine mv (by constructor) ?_) | ((with_reducible first | refine zR ?_ ?_ | refine zW mixed ?_ ?_); exact kr) | ((with_reducible apply zK); exact rfl; exact tf) | ((with_reducible apply zCD); exact rfl) | ((with_reducible apply zCN); exact rfl) | ((with_reducible apply zC); exact rfl) | ((with_reducible refine zX ?_ ?_); exact rfl) | ((with_reducible refine zE (And.intro ?_ ?_)); exact kr) | (with_reducible refine zE ?_) | ((with_reducible apply zP); (first | exact o_index rfl rfl (by omega) (by omega) (f4V_ix hj4) | exact o_load1 rfl rfl (mcV_get ha4 hj4) | exact dp)) | ((with_reducible apply zN); exact dn) | ((with_reducible apply zA); exact da) | ((with_reducible apply zS); (first | exact o_store rfl rfl rfl rfl (by rfl) (by show _ ≤ 16; omega) (mcV_set ha4 hj4 _ fun i c _ _ => midM_step W k a j i c) | exact ds)) | ((with_reducible apply zY); exact rfl; exact rfl; exact tf) | ((with_reducible apply zG); exact rfl; exact rfl; exact tf) | ((with_reducible apply zU); exact rfl; exact rfl) | ((with_reducible apply zD); exact rfl; exact rfl) | ((with_reducible apply zB); exact rfl; exact rfl)))
        refine ⟨j + 1, by omega, by omega, (And.intro rfl (And.intro rfl (And.intro rfl (And.intro rfl (And.intro rfl (And.intro rfl (And.intro rfl (And.intro rfl (And.intro rfl (And.intro rfl (And.intro rfl (And.intro rfl (And.intro rfl (And.intro rfl trivial)))))))))))))), (And.intro rfl (And.intro rfl (And.intro rfl (And.intro rfl trivial))))⟩
      · have hj5 : j = 4 := by omega
        subst hj5
        (repeat' (first | (with_reducible first | intro hg | refine mv (by constructor) ?_) | ((with_reducible first | refine zR ?_ ?_ | refine zW mixed ?_ ?_); exact kr) | ((with_reducible apply zK); exact rfl; exact tf) | ((with_reducible apply zCD); exact rfl) | ((with_reducible apply zCN); exact rfl) | ((with_reducible apply zC); exact rfl) | ((with_reducible refine zX ?_ ?_); exact rfl) | ((with_reducible refine zE (And.intro ?_ ?_)); exact kr) | (with_reducible refine zE ?_) | ((with_reducible apply zP); exact dp) | ((with_reducible apply zN); exact dn) | ((with_reducible apply zA); exact da) | ((with_reducible apply zS); exact ds) | ((with_reducible apply zY); exact rfl; exact rfl; exact tf) | ((with_reducible apply zG); exact rfl; exact rfl; exact tf) | ((with_reducible apply zU); exact rfl; exact rfl) | ((with_reducible apply zD); exact rfl; exact rfl) | ((with_reducible apply zB); exact rfl; exact rfl)))
        refine ⟨a + 1, by omega, by omega, (And.intro rfl (And.intro rfl (And.intro rfl (And.intro rfl (And.intro rfl (And.intro rfl (And.intro rfl (And.intro rfl (And.intro rfl (And.intro rfl trivial)))))))))), (And.intro rfl (And.intro (congrArg (fun m => some (Blk.mk _ m)) (mcV_congr fun r c _ hc => midM_next W k a r c hc)) (And.intro (rfl) (And.intro (rfl) trivial))))⟩
    · have ha5 : a = 4 := by omega
      subst ha5
      (repeat' (first | (with_reducible first | intro hg | refine mv (by constructor) ?_) | ((with_reducible first | refine zR ?_ ?_ | refine zW mixed ?_ ?_); exact kr) | ((with_reducible apply zK); exact rfl; exact tf) | ((with_reducible apply zCD); exact rfl) | ((with_reducible apply zCN); exact rfl) | ((with_reducible apply zC); exact rfl) | ((with_reducible refine zX ?_ ?_); exact rfl) | ((with_reducible refine zE (And.intro ?_ ?_)); exact kr) | (with_reducible refine zE ?_) | ((with_reducible apply zP); exact dp) | ((with_reducible apply zN); exact dn) | ((with_reducible apply zA); exact da) | ((with_reducible apply zS); exact ds) | ((with_reducible apply zY); exact rfl; exact rfl; exact tf) | ((with_reducible apply zG); exact rfl; exact rfl; exact tf) | ((with_reducible apply zU); exact rfl; exact rfl) | ((with_reducible apply zD); exact rfl; exact rfl) | ((with_reducible apply zB); exact rfl; exact rfl)))
      refine ⟨k + 1, by omega, by omega, (And.intro rfl (And.intro rfl (And.intro rfl (And.intro rfl (And.intro rfl (And.intro rfl trivial)))))), (And.intro rfl (And.intro (congrArg (fun m => some (Blk.mk _ m)) (mcV_congr fun r c hr _ => midM_end W k r c hr)) (And.intro (congrArg (fun m => some (Blk.mk _ m)) (f4V_congr fun r hr => midR_end W xs k r hr)) trivial)))⟩
  · have hk4 : k = xs.length := by omega
    subst hk4
    (repeat' (first | (with_reducible first | intro hg | refine mv (by constructor) ?_) | ((with_reducible first | refine zR ?_ ?_ | refine zW mixed ?_ ?_); exact kr) | ((with_reducible apply zK); exact rfl; exact tf) | ((with_reducible apply zCD); exact rfl) | ((with_reducible apply zCN); exact rfl) | ((with_reducible apply zC); exact rfl) | ((with_reducible refine zX ?_ ?_); exact rfl) | ((with_reducible refine zE (And.intro ?_ ?_)); exact kr) | (with_reducible refine zE ?_) | ((with_reducible apply zP); exact dp) | ((with_reducible apply zN); exact dn) | ((with_reducible apply zA); exact da) | ((with_reducible apply zS); exact ds) | ((with_reducible apply zY); exact rfl; exact rfl; exact tf) | ((with_reducible apply zG); exact rfl; exact rfl; exact tf) | ((with_reducible apply zU); exact rfl; exact rfl) | ((with_reducible apply zD); exact rfl; exact rfl) | ((with_reducible apply zB); exact rfl; exact rfl)))
    ((with_reducible first | apply q_retR | apply q_retN); exact rl)
    rfl

end Go.Proofs.Ytgjhikjnlcbmkaa
