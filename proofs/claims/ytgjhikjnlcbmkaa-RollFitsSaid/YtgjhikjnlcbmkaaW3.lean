/- Merged: XBi XBj XBk. -/
import Derived.Test.YtgjhikjnlcbmkaaW2
set_option linter.unusedVariables false
set_option linter.unusedSimpArgs false
/- Walks: sums, amplitudes, steady amplitudes, records without a wave. -/
namespace Go.Proofs.Ytgjhikjnlcbmkaa
open Go.RowKit
set_option maxRecDepth 20000
set_option maxHeartbeats 1000000

theorem low2 {xs : List Int} {nm : ByteArray} {p o : Int} (h : turnErr xs nm p o = 0) : Drum p o ∧ xs.length ≤ 240 ∧ p ≤ xs.length ∧ Bnd 1000000 xs := by
  obtain ⟨h1, h2⟩ := turn_ok h
  obtain ⟨h3, h4⟩ := both_ok h1
  obtain ⟨h5, h6, h7⟩ := rec_ok h3
  exact ⟨(drum_ok h4).1, h6, h2, h7⟩

abbrev reOf (p o : Int) (xs : List Int) : Int := rsum p o xs 0 0 - rsum p o xs 0 2
abbrev imOf (p o : Int) (xs : List Int) : Int := rsum p o xs 0 3 - rsum p o xs 0 1

theorem amplitudeOf_ok (xs : List Int) (nm : ByteArray) (p o : Int) (hs : nm.size ≤ 140737488355328) (hp : I64 p) (he : turnErr xs nm p o = 0) :
    AC Try.prog 16 [isl xs, drumV nm p o] (.tuple [ampV (low (2 * reOf p o xs) (cnt xs.length p : Nat)) (low (2 * imOf p o xs) (cnt xs.length p : Nat)), I 0]) := by
  obtain ⟨hd, hm, hl, hB⟩ := low2 he
  have hB4 : Bnd 4000000 xs := hB.mono (by omega)
  have b (q : Int) := rsum_bnd (p := p) (o := o) (k0 := 0) (q := q) hB4 (by omega)
  have b0 := b 0
  have b1 := b 1
  have b2 := b 2
  have b3 := b 3
  have hc := cnt_pos hd.1 hl
  refine ac_body Try.func16 rfl (by kernel_rfl) fun w0 ok => ?_; show AWp _ (ctx0 w0 ok _) _ (ARet _ _ _) (entry _)
  (repeat' (first | (with_reducible first | intro hg | refine mv (by constructor) ?_) | ((with_reducible first | refine zR ?_ ?_ | refine zW mixed ?_ ?_); exact kr) | ((with_reducible apply zK); exact rfl; exact tf) | ((with_reducible apply zCD); exact rfl) | ((with_reducible apply zCN); exact rfl) | ((with_reducible apply zC); exact rfl) | ((with_reducible refine zX ?_ ?_); exact rfl) | ((with_reducible refine zE (And.intro ?_ ?_)); exact kr) | (with_reducible refine zE ?_) | ((with_reducible apply zP); (first | exact dp | exact oc rfl (turning_A _ _ _ _ (by omega) hs hp) | exact oc rfl (sums_A _ _ _ _ _ (by omega) hd (by omega) (by omega) hB4) | exact oc rfl (sum_A (rsum p o xs 0) (by omega) (by omega) (by omega) (by omega)) | exact oc rfl (over_A _ _ _ ⟨by omega, by omega⟩ ⟨by omega, by omega⟩ (by omega) (by omega)))) | ((with_reducible apply zN); exact dn) | ((with_reducible apply zA); exact da) | ((with_reducible apply zS); exact ds) | ((with_reducible apply zY); exact rfl; exact rfl; exact tf) | ((with_reducible apply zG); exact rfl; exact rfl; exact tf) | ((with_reducible apply zU); exact rfl; exact rfl) | ((with_reducible apply zD); exact rfl; exact rfl) | ((with_reducible apply zB); exact rfl; exact rfl)))
  ((with_reducible first | apply q_retR | apply q_retN); exact rl)
  rfl
def dif (xs : List Int) (h : Nat) : List Int := lst (fun k => nth xs k - nth xs (k + h)) (xs.length - h)
def steadyErr (xs : List Int) (nm : ByteArray) (p o : Int) : Int := fst0 [bothErr xs nm p o, unl (decide (p + p / 2 ≤ xs.length)) 10]
theorem dif_bnd {xs : List Int} {h : Nat} (hB : Bnd 1000000 xs) : Bnd 2000000 (dif xs h) := by
  intro x hx
  obtain ⟨k, hk, rfl⟩ := List.mem_map.1 hx
  rw [List.mem_range] at hk
  have h1 := nth_bnd hB (k := k) (by omega)
  have h2 := nth_bnd hB (k := k + h) (by omega)
  omega
theorem dif_len (xs : List Int) (h : Nat) : (dif xs h).length = xs.length - h := lst_length _ _
theorem steady_ok {xs : List Int} {nm : ByteArray} {p o : Int} (h : steadyErr xs nm p o = 0) : bothErr xs nm p o = 0 ∧ p + p / 2 ≤ xs.length := by
  obtain ⟨h1, h2⟩ := fst0_cons h
  have h2 := (fst0_cons h2).1
  refine ⟨h1, ?_⟩
  cases hd : decide (p + p / 2 ≤ (xs.length : Int))
  · rw [hd] at h2; cases h2
  · exact of_decide_eq_true hd
theorem steadyOf_ok (xs : List Int) (nm : ByteArray) (p o : Int) (hs : nm.size ≤ 140737488355328) (hp : I64 p) (he : steadyErr xs nm p o = 0) :
    AC Try.prog 18 [isl xs, drumV nm p o] (.tuple [ampV (low (reOf p o (dif xs (p / 2).toNat)) (cnt (dif xs (p / 2).toNat).length p : Nat)) (low (imOf p o (dif xs (p / 2).toNat)) (cnt (dif xs (p / 2).toNat).length p : Nat)), I 0]) := by
  have he' : fst0 [bothErr xs nm p o, unl (decide (p + p / 2 ≤ xs.length)) 10] = 0 := he
  obtain ⟨h1, h2⟩ := steady_ok he
  obtain ⟨h3, h4⟩ := both_ok h1
  obtain ⟨h5, hm, hB⟩ := rec_ok h3
  have hd := (drum_ok h4).1
  obtain ⟨d1, d2, d3, d4⟩ := id hd
  have hhB : Bnd 4000000 (dif xs (p / 2).toNat) := (dif_bnd hB).mono (by omega)
  have hlen := dif_len xs (p / 2).toNat
  have b (q : Int) := rsum_bnd (p := p) (o := o) (k0 := 0) (q := q) hhB (by omega)
  have b0 := b 0
  have b1 := b 1
  have b2 := b 2
  have b3 := b 3
  have hc := cnt_pos (n := (dif xs (p / 2).toNat).length) hd.1 (by omega)
  refine ac_body Try.func18 rfl (by kernel_rfl) fun w0 ok => ?_; show AWp _ (ctx0 w0 ok _) _ (ARet _ _ _) (entry _)
  (repeat' (first | (with_reducible first | intro hg | refine mv (by constructor) ?_) | ((with_reducible first | refine zR ?_ ?_ | refine zW mixed ?_ ?_); exact kr) | ((with_reducible apply zK); exact rfl; exact tf) | ((with_reducible apply zCD); exact rfl) | ((with_reducible apply zCN); exact rfl) | ((with_reducible apply zC); exact rfl) | ((with_reducible refine zX ?_ ?_); exact rfl) | ((with_reducible refine zE (And.intro ?_ ?_)); exact kr) | (with_reducible refine zE ?_) | ((with_reducible apply zP); (first | exact dp | exact oc rfl (open_A _ _ _ _ (by omega) hs hp) | exact oc rfl (unless_A _ _) | exact oc rfl (first2_A _ _))) | ((with_reducible apply zN); exact dn) | ((with_reducible apply zA); exact da) | ((with_reducible apply zS); exact ds) | ((with_reducible apply zY); exact rfl; exact rfl; exact tf) | ((with_reducible apply zG); exact rfl; exact rfl; exact tf) | ((with_reducible apply zU); exact rfl; exact rfl) | ((with_reducible apply zD); exact rfl; exact rfl) | ((with_reducible apply zB); exact rfl; exact rfl)))
  refine awp_loopL (α := Nat) (fun k => [(0, .d (isl xs)), (3, .ptr 3 0), (4, .ptr 4 0), (5, .d (I 0)), (6, .ptr 6 0), (8, ownS 59 k), (40, .d (I (xs.length - p / 2))), (41, .d (I k))])
    (fun k => (3, ⟨24, [S nm, I p, I o]⟩) :: (4, ⟨55, [I 0, I 0, I 0, I 0]⟩) :: (6, ⟨69, [S nm, I p, I o]⟩) :: ownM 59 3 (ivs (lst (fun k => nth xs k - nth xs (k + (p / 2).toNat)) k)) k) (fun k => k ≤ xs.length - (p / 2).toNat) (fun k => xs.length - k) 0 (Nat.zero_le _) (And.intro rfl (And.intro rfl (And.intro rfl (And.intro rfl (And.intro rfl (And.intro rfl (And.intro rfl (And.intro rfl trivial)))))))) (And.intro rfl (And.intro rfl (And.intro rfl trivial))) fun k hk => ?_
  by_cases hlt : k < xs.length - (p / 2).toNat
  · have hkh : ((k : Int) + p / 2).toNat = k + (p / 2).toNat := by omega
    obtain ⟨v1, v2⟩ := nth_bnd hB (k := k) (by omega)
    obtain ⟨v3, v4⟩ := nth_bnd hB (k := ((k : Int) + p / 2).toNat) (by omega)
    rcases k with _ | k
    · (repeat' (first | (with_reducible first | intro hg | refine mv (by constructor) ?_) | ((with_reducible first | refine zR ?_ ?_ | refine zW mixed ?_ ?_); exact kr) | ((with_reducible apply zK); exact rfl; exact tf) | ((with_reducible apply zCD); exact rfl) | ((with_reducible apply zCN); exact rfl) | ((with_reducible apply zC); exact rfl) | ((with_reducible refine zX ?_ ?_); exact rfl) | ((with_reducible refine zE (And.intro ?_ ?_)); exact kr) | (with_reducible refine zE ?_) | ((with_reducible apply zP); exact dp) | ((with_reducible apply zN); exact dn) | ((with_reducible apply zA); exact da) | ((with_reducible apply zS); exact ds) | ((with_reducible apply zY); exact rfl; exact rfl; exact tf) | ((with_reducible apply zG); exact rfl; exact rfl; exact tf) | ((with_reducible apply zU); exact rfl; exact rfl) | ((with_reducible apply zD); exact rfl; exact rfl) | ((with_reducible apply zB); exact rfl; exact rfl)))
      refine ⟨1, by omega, by omega, (And.intro rfl (And.intro rfl (And.intro rfl (And.intro rfl (And.intro rfl (And.intro rfl (And.intro rfl (And.intro rfl trivial)))))))), (And.intro rfl (And.intro rfl (And.intro rfl (And.intro (blk_one _ _ (by rw [hkh])) trivial))))⟩
    · (repeat' (first | (with_reducible first | intro hg | refine mv (by constructor) ?_) | ((with_reducible first | refine zR ?_ ?_ | refine zW mixed ?_ ?_); exact kr) | ((with_reducible apply zK); exact rfl; exact tf) | ((with_reducible apply zCD); exact rfl) | ((with_reducible apply zCN); exact rfl) | ((with_reducible apply zC); exact rfl) | ((with_reducible refine zX ?_ ?_); exact rfl) | ((with_reducible refine zE (And.intro ?_ ?_)); exact kr) | (with_reducible refine zE ?_) | ((with_reducible apply zP); exact dp) | ((with_reducible apply zN); exact dn) | ((with_reducible apply zA); exact da) | ((with_reducible apply zS); exact ds) | ((with_reducible apply zY); exact rfl; exact rfl; exact tf) | ((with_reducible apply zG); exact rfl; exact rfl; exact tf) | ((with_reducible apply zU); exact rfl; exact rfl) | ((with_reducible apply zD); exact rfl; exact rfl) | ((with_reducible apply zB); exact rfl; exact rfl)))
      refine ⟨k + 2, by omega, by omega, (And.intro rfl (And.intro rfl (And.intro rfl (And.intro rfl (And.intro rfl (And.intro rfl (And.intro rfl (And.intro rfl trivial)))))))), (And.intro rfl (And.intro rfl (And.intro rfl (And.intro (blk_snoc _ _ _ (by rw [hkh])) trivial))))⟩
  · have hk2 : k = xs.length - (p / 2).toNat := by omega
    subst hk2
    refine awp_own 8 59 (t := 3) (fun k => nth xs k - nth xs (k + (p / 2).toNat)) rfl (fun j hj => by rw [hj]; rfl) ?_
    (repeat' (first | (with_reducible first | intro hg | refine mv (by constructor) ?_) | ((with_reducible first | refine zR ?_ ?_ | refine zW mixed ?_ ?_); exact kr) | ((with_reducible apply zK); exact rfl; exact tf) | ((with_reducible apply zCD); exact rfl) | ((with_reducible apply zCN); exact rfl) | ((with_reducible apply zC); exact rfl) | ((with_reducible refine zX ?_ ?_); exact rfl) | ((with_reducible refine zE (And.intro ?_ ?_)); exact kr) | (with_reducible refine zE ?_) | ((with_reducible apply zP); (first | exact dp | exact oc rfl (sums_A _ _ _ (dif xs (p / 2).toNat) _ (by omega) hd (by omega) (by omega) hhB) | exact oc rfl (sum_A (rsum p o (dif xs (p / 2).toNat) 0) (by omega) (by omega) (by omega) (by omega)) | exact oc rfl (over_A _ _ _ ⟨by omega, by omega⟩ ⟨by omega, by omega⟩ (by omega) (by omega)))) | ((with_reducible apply zN); exact dn) | ((with_reducible apply zA); exact da) | ((with_reducible apply zS); exact ds) | ((with_reducible apply zY); exact rfl; exact rfl; exact tf) | ((with_reducible apply zG); exact rfl; exact rfl; exact tf) | ((with_reducible apply zU); exact rfl; exact rfl) | ((with_reducible apply zD); exact rfl; exact rfl) | ((with_reducible apply zB); exact rfl; exact rfl)))
    ((with_reducible first | apply q_retR | apply q_retN); exact rl)
    rfl

end Go.Proofs.Ytgjhikjnlcbmkaa

/- Walks: the reference's sums and amplitudes, waves. -/
namespace Go.Proofs.Ytgjhikjnlcbmkaa
open Go.RowKit
set_option maxRecDepth 20000
set_option maxHeartbeats 1000000

end Go.Proofs.Ytgjhikjnlcbmkaa

/- Walks: a record without a wave, runs. -/
namespace Go.Proofs.Ytgjhikjnlcbmkaa
open Go.RowKit
set_option maxRecDepth 20000
set_option maxHeartbeats 1000000

theorem wave_bnd {p o re im k B : Int} (h1 : re.natAbs ≤ B) (h2 : im.natAbs ≤ B) : -B ≤ wave p o re im k ∧ wave p o re im k ≤ B := by
  have := waveQ_bnd (q := qtr p o k) (re := re) (im := im)
  unfold wave
  omega
def runAt (xs : List Int) (P : Nat) (o : Int) (k : Nat) : Int :=
  if k < P then nth xs k else nth xs k - wave P o (nearRe P o (turnOf xs P (k / P - 1)) ((k / P - 1) * P : Nat)) (nearIm P o (turnOf xs P (k / P - 1)) ((k / P - 1) * P : Nat)) k
theorem turn_len {xs : List Int} {P t : Nat} (h : (t + 1) * P ≤ xs.length) : (turnOf xs P t).length = P := by
  unfold turnOf; rw [List.length_take, List.length_drop]
  have : (t + 1) * P = t * P + P := Nat.succ_mul t P
  omega
theorem turn_bnd {xs : List Int} {P t : Nat} {B : Int} (hB : Bnd B xs) : Bnd B (turnOf xs P t) := (hB.drop _).take _
theorem cnt_self {P : Nat} (h : 0 < P) : cnt P P = P := by
  unfold cnt; rw [Int.toNat_natCast, Nat.div_self h, Nat.one_mul]
theorem run_near {xs : List Int} {P : Nat} {o k0 : Int} {t : Nat} (hB : Bnd 1000000 xs) (hP : 0 < P) (h : (t + 1) * P ≤ xs.length) : (nearRe P o (turnOf xs P t) k0).natAbs ≤ 4000000 ∧ (nearIm P o (turnOf xs P t) k0).natAbs ≤ 4000000 :=
  nearRe_bnd (turn_bnd hB) (by rw [turn_len h, cnt_self hP]; exact hP)
theorem turn_in {k P : Nat} (hP : 0 < P) (hk : P ≤ k) : (k / P - 1 + 1) * P ≤ k ∧ 1 ≤ k / P := by
  have h1 : 1 ≤ k / P := (Nat.one_le_div_iff hP).2 hk
  have h2 := Nat.div_mul_le_self k P
  rw [show k / P - 1 + 1 = k / P by omega]
  exact ⟨h2, h1⟩
end Go.Proofs.Ytgjhikjnlcbmkaa
