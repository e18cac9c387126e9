/- Walk: the reference's CheckFit. -/
import Derived.Test.YtgjhikjnlcbmkaaSp
import Derived.Test.YtgjhikjnlcbmkaaVi
set_option linter.unusedVariables false
set_option linter.unusedSimpArgs false
namespace Go.Proofs.Ytgjhikjnlcbmkaa
open Go.RowKit
set_option maxRecDepth 20000
set_option maxHeartbeats 16000000

theorem refCheck_A (xs : List Int) (nm0 : ByteArray) (p0 o0 : Int) (nm1 : ByteArray) (p1 o1 : Int) (D : Int) (F : Nat → Int) (he : pairErr xs nm0 p0 o0 nm1 p1 o1 = 0)
    (W : Nat → Nat → Int) (hWe : ∀ k i, W k i = W4 p0 o0 p1 o1 k i) (res : DV) (hres : res = .tuple [I (fitC W xs xs.length D F).1, I (fitC W xs xs.length D F).2]) :
    AC Try.prog 15 [isl xs, drums2 nm0 p0 o0 nm1 p1 o1, .agg (f5V D F)] res := by
  obtain ⟨e1, e2, e3⟩ := pair_ok he
  obtain ⟨_, hm, hB⟩ := rec_ok e1
  have hd0 := (drum_ok e2).1
  have hd1 := (drum_ok e3).1
  have hpt := fun (i k : Nat) (hi : i < 4) (hk : k < xs.length) => part_A nm0 p0 o0 nm1 p1 o1 i k hd0 hd1 hi (by omega) (by omega)
  have hW : ∀ k i, (W k i).natAbs ≤ 1 := fun k i => by rw [hWe]; exact W4_one _ _ _ _ _ _
  simp only [← hWe] at hpt
  have hx : ∀ k, (nth xs k).natAbs ≤ 1000000 := fun k => by have := nth_rng hB (by omega) k; omega
  clear he e1 e2 e3 hd0 hd1 hWe hB
  have bd := bwithin_A D 1 10000000000
  have ed : inR D 1 10000000000 = okD D := rfl
  rw [ed] at bd
  cases hD : okD D
  · rw [hD] at bd
    rw [hres, fitC_1 hD]
    clear hres hpt hW hx ed hD
    refine ac_body Try.func15 rfl (by kernel_rfl) fun w0 ok => ?_; show AWp _ (ctx0 w0 ok _) _ (ARet _ _ _) (entry _)
    (repeat' (first | (with_reducible first | intro hg | refine mv (by constructor) ?_) | ((with_reducible first | refine zR ?_ ?_ | refine zW mixed ?_ ?_); exact kr) | ((with_reducible apply zK); exact rfl; exact tf) | ((with_reducible apply zCD); exact rfl) | ((with_reducible apply zCN); exact rfl) | ((with_reducible apply zC); exact rfl) | ((with_reducible refine zX ?_ ?_); exact rfl) | ((with_reducible refine zE (And.intro ?_ ?_)); exact kr) | (with_reducible refine zE ?_) | ((with_reducible apply zP); (first | exact dp | exact oc rfl (bd))) | ((with_reducible apply zN); exact dn) | ((with_reducible apply zA); exact da) | ((with_reducible apply zS); exact ds) | ((with_reducible apply zY); exact rfl; exact rfl; exact tf) | ((with_reducible apply zG); exact rfl; exact rfl; exact tf) | ((with_reducible apply zU); exact rfl; exact rfl) | ((with_reducible apply zD); exact rfl; exact rfl) | ((with_reducible apply zB); exact rfl; exact rfl)))
    ((with_reducible first | apply q_retR | apply q_retN); exact rl)
    rfl
  rw [hD] at bd
  refine ac_body Try.func15 rfl (by kernel_rfl) fun w0 ok => ?_; show AWp _ (ctx0 w0 ok _) _ (ARet _ _ _) (entry _)
  (repeat' (first | (with_reducible first | intro hg | refine mv (by constructor) ?_) | ((with_reducible first | refine zR ?_ ?_ | refine zW mixed ?_ ?_); exact kr) | ((with_reducible apply zK); exact rfl; exact tf) | ((with_reducible apply zCD); exact rfl) | ((with_reducible apply zCN); exact rfl) | ((with_reducible apply zC); exact rfl) | ((with_reducible refine zX ?_ ?_); exact rfl) | ((with_reducible refine zE (And.intro ?_ ?_)); exact kr) | (with_reducible refine zE ?_) | ((with_reducible apply zP); (first | exact dp | exact oc rfl (bd))) | ((with_reducible apply zN); exact dn) | ((with_reducible apply zA); exact da) | ((with_reducible apply zS); exact ds) | ((with_reducible apply zY); exact rfl; exact rfl; exact tf) | ((with_reducible apply zG); exact rfl; exact rfl; exact tf) | ((with_reducible apply zU); exact rfl; exact rfl) | ((with_reducible apply zD); exact rfl; exact rfl) | ((with_reducible apply zB); exact rfl; exact rfl)))
  refine awp_loopL (α := Nat) (fun j => [(0, .d (isl xs)), (4, .ptr 4 0), (5, .ptr 5 0), (8, .d (I (gcF D F j))), (9, .d (I j))]) (fun _ => [(4, ⟨25, [S nm0, I p0, I o0, S nm1, I p1, I o1]⟩), (5, ⟨34, f5V D F⟩)]) (fun j => j ≤ 4 ∧ fstI (badF F) j (4 - j) = fstI (badF F) 0 4) (fun j => 4 - j) 0 ⟨Nat.zero_le _, rfl⟩ (And.intro rfl (And.intro rfl (And.intro rfl (And.intro rfl (And.intro rfl trivial))))) (And.intro rfl (And.intro rfl trivial)) fun j ⟨hj, hf⟩ => ?_
  by_cases hj4 : j < 4
  · have hbf : ∀ c, c < j → badF F c = false := fun c hc => by
      obtain ⟨a1, a2, a3, a4⟩ := fstI_rng (badF F) (4 - j) j
      obtain ⟨b1, b2, b3, b4⟩ := fstI_rng (badF F) 4 0
      exact b3 c (Nat.zero_le _) (by omega)
    rw [fstI_at _ hj4] at hf
    have bw := bwithin_A (F j) (-1000000000000000) 1000000000000000
    cases hb : badF F j
    · rw [hb] at hf
      have eb : inR (F j) (-1000000000000000) 1000000000000000 = true := by
        unfold badF at hb; simpa using hb
      rw [eb] at bw
      have hg : 0 < gcF D F j ∧ gcF D F j ≤ 10000000000 := by
        clear bw hpt
        have hi := inR_true.1 hD
        have key : ∀ i, i ≤ j → 0 < gcF D F i ∧ gcF D F i ≤ 10000000000 := fun i => by
          induction i with
          | zero => intro _; show 0 < D ∧ D ≤ 10000000000; omega
          | succ i ih =>
            intro h
            obtain ⟨h1, h2⟩ := ih (by omega)
            show 0 < ((Int.gcd (gcF D F i) (F i) : Nat) : Int) ∧ ((Int.gcd (gcF D F i) (F i) : Nat) : Int) ≤ 10000000000
            have h3 := Int.gcd_pos_of_ne_zero_left (F i) (a := gcF D F i) (by omega)
            have h4 := Int.gcd_le_natAbs_left (F i) (a := gcF D F i) (by omega)
            omega
        exact key j (Nat.le_refl _)
      have hFj := badF_ok hb
      have gg := gcd_A (gcF D F j) (F j) (by unfold Sm; omega) (by unfold Sm; omega)
      clear hres hpt hW hx ed hD hb eb bd hbf
      (repeat' (first | (with_reducible first | intro hg | refine mv (by constructor) ?_) | ((with_reducible first | refine zR ?_ ?_ | refine zW mixed ?_ ?_); exact kr) | ((with_reducible apply zK); exact rfl; exact tf) | ((with_reducible apply zCD); exact rfl) | ((with_reducible apply zCN); exact rfl) | ((with_reducible apply zC); exact rfl) | ((with_reducible refine zX ?_ ?_); exact rfl) | ((with_reducible refine zE (And.intro ?_ ?_)); exact kr) | (with_reducible refine zE ?_) | ((with_reducible apply zP); (first | exact o_load1 rfl rfl (f5V_get hj4) | exact dp | exact oc rfl (bw) | exact oc rfl (gg))) | ((with_reducible apply zN); exact dn) | ((with_reducible apply zA); exact da) | ((with_reducible apply zS); exact ds) | ((with_reducible apply zY); exact rfl; exact rfl; exact tf) | ((with_reducible apply zG); exact rfl; exact rfl; exact tf) | ((with_reducible apply zU); exact rfl; exact rfl) | ((with_reducible apply zD); exact rfl; exact rfl) | ((with_reducible apply zB); exact rfl; exact rfl)))
      exact ⟨j + 1, ⟨by omega, hf⟩, by omega, (And.intro rfl (And.intro rfl (And.intro rfl (And.intro rfl (And.intro rfl trivial))))), (And.intro rfl (And.intro rfl trivial))⟩
    · rw [hb] at hf
      have hf : j = fstI (badF F) 0 4 := hf
      have eb : inR (F j) (-1000000000000000) 1000000000000000 = false := by
        unfold badF at hb; simpa using hb
      rw [eb] at bw
      rw [hres, fitC_2 hD hf hj4]
      clear hres hpt hW hx ed hD hb eb bd hbf hf
      (repeat' (first | (with_reducible first | intro hg | refine mv (by constructor) ?_) | ((with_reducible first | refine zR ?_ ?_ | refine zW mixed ?_ ?_); exact kr) | ((with_reducible apply zK); exact rfl; exact tf) | ((with_reducible apply zCD); exact rfl) | ((with_reducible apply zCN); exact rfl) | ((with_reducible apply zC); exact rfl) | ((with_reducible refine zX ?_ ?_); exact rfl) | ((with_reducible refine zE (And.intro ?_ ?_)); exact kr) | (with_reducible refine zE ?_) | ((with_reducible apply zP); (first | exact o_load1 rfl rfl (f5V_get hj4) | exact dp | exact oc rfl (bw))) | ((with_reducible apply zN); exact dn) | ((with_reducible apply zA); exact da) | ((with_reducible apply zS); exact ds) | ((with_reducible apply zY); exact rfl; exact rfl; exact tf) | ((with_reducible apply zG); exact rfl; exact rfl; exact tf) | ((with_reducible apply zU); exact rfl; exact rfl) | ((with_reducible apply zD); exact rfl; exact rfl) | ((with_reducible apply zB); exact rfl; exact rfl)))
      ((with_reducible first | apply q_retR | apply q_retN); exact rl)
      rfl
  obtain rfl : j = 4 := by omega
  have hf : 4 = fstI (badF F) 0 4 := hf
  have hnb : ¬ fstI (badF F) 0 4 < 4 := by omega
  have hbf : ∀ c, c < 4 → badF F c = false := fun c hc => fstI_all hnb hc
  have hgb := gcF_bnd hD hbf 4 (Nat.le_refl _)
  by_cases hg1 : gcF D F 4 = 1
  case neg =>
    rw [hres, fitC_3 hD hnb hg1]
    clear hres hpt hW hx ed hD bd hbf hf hnb hgb
    (repeat' (first | (with_reducible first | intro hg | refine mv (by constructor) ?_) | ((with_reducible first | refine zR ?_ ?_ | refine zW mixed ?_ ?_); exact kr) | ((with_reducible apply zK); exact rfl; exact tf) | ((with_reducible apply zCD); exact rfl) | ((with_reducible apply zCN); exact rfl) | ((with_reducible apply zC); exact rfl) | ((with_reducible refine zX ?_ ?_); exact rfl) | ((with_reducible refine zE (And.intro ?_ ?_)); exact kr) | (with_reducible refine zE ?_) | ((with_reducible apply zP); exact dp) | ((with_reducible apply zN); exact dn) | ((with_reducible apply zA); exact da) | ((with_reducible apply zS); exact ds) | ((with_reducible apply zY); exact rfl; exact rfl; exact tf) | ((with_reducible apply zG); exact rfl; exact rfl; exact tf) | ((with_reducible apply zU); exact rfl; exact rfl) | ((with_reducible apply zD); exact rfl; exact rfl) | ((with_reducible apply zB); exact rfl; exact rfl)))
    ((with_reducible first | apply q_retR | apply q_retN); exact rl)
    rfl
  have hFb : ∀ c, c < 4 → (F c).natAbs ≤ 1000000000000000 := fun c hc => badF_ok (hbf c hc)
  have hDb : D.natAbs ≤ 10000000000 := by have := inR_true.1 hD; omega
  have hrb := fun k j hj => rsP_bnd (k := k) hDb (hx k) hFb hW j hj
  have hlb := lfS_bnd hDb hx hFb hW
  have c4 := fun i hi => fitC_4 (W := W) (xs := xs) (K := xs.length) hD hnb hg1 (i := i) hi
  have c5 := fitC_5 (W := W) (xs := xs) (K := xs.length) hD hnb hg1
  have w0' := bigOf_A 0 ⟨by decide, by decide⟩
  clear hbf hnb hf hD bd ed hj hj4 hgb
  (repeat' (first | (with_reducible first | intro hg | refine mv (by constructor) ?_) | ((with_reducible first | refine zR ?_ ?_ | refine zW mixed ?_ ?_); exact kr) | ((with_reducible apply zK); exact rfl; exact tf) | ((with_reducible apply zCD); exact rfl) | ((with_reducible apply zCN); exact rfl) | ((with_reducible apply zC); exact rfl) | ((with_reducible refine zX ?_ ?_); exact rfl) | ((with_reducible refine zE (And.intro ?_ ?_)); exact kr) | (with_reducible refine zE ?_) | ((with_reducible apply zP); exact dp) | ((with_reducible apply zN); exact dn) | ((with_reducible apply zA); exact da) | ((with_reducible apply zS); exact ds) | ((with_reducible apply zY); exact rfl; exact rfl; exact tf) | ((with_reducible apply zG); exact rfl; exact rfl; exact tf) | ((with_reducible apply zU); exact rfl; exact rfl) | ((with_reducible apply zD); exact rfl; exact rfl) | ((with_reducible apply zB); exact rfl; exact rfl)))
  refine awp_loopL (α := Nat) (fun i => [(0, .d (isl xs)), (4, .ptr 4 0), (5, .ptr 5 0), (10, .d (I i))]) (fun _ => [(4, ⟨25, [S nm0, I p0, I o0, S nm1, I p1, I o1]⟩), (5, ⟨34, f5V D F⟩)]) (fun i => i ≤ 4 ∧ fstI (nzF W xs xs.length D F) i (4 - i) = fstI (nzF W xs xs.length D F) 0 4) (fun i => 4 - i) 0 ⟨Nat.zero_le _, rfl⟩ (And.intro rfl (And.intro rfl (And.intro rfl (And.intro rfl trivial)))) (And.intro rfl (And.intro rfl trivial)) fun i ⟨hi, hf⟩ => ?_
  by_cases hi4 : i < 4
  · (repeat' (first | (with_reducible first | intro hg | refine mv (by constructor) ?_) | ((with_reducible first | refine zR ?_ ?_ | refine zW mixed ?_ ?_); exact kr) | ((with_reducible apply zK); exact rfl; exact tf) | ((with_reducible apply zCD); exact rfl) | ((with_reducible apply zCN); exact rfl) | ((with_reducible apply zC); exact rfl) | ((with_reducible refine zX ?_ ?_); exact rfl) | ((with_reducible refine zE (And.intro ?_ ?_)); exact kr) | (with_reducible refine zE ?_) | ((with_reducible apply zP); (first | exact dp | exact oc rfl (w0'))) | ((with_reducible apply zN); exact dn) | ((with_reducible apply zA); exact da) | ((with_reducible apply zS); exact ds) | ((with_reducible apply zY); exact rfl; exact rfl; exact tf) | ((with_reducible apply zG); exact rfl; exact rfl; exact tf) | ((with_reducible apply zU); exact rfl; exact rfl) | ((with_reducible apply zD); exact rfl; exact rfl) | ((with_reducible apply zB); exact rfl; exact rfl)))
    refine awp_loopL (α := Nat) (fun k => [(0, .d (isl xs)), (4, .ptr 4 0), (5, .ptr 5 0), (10, .d (I i)), (11, .ptr 11 0), (12, .d (I k))]) (fun k => [(4, ⟨25, [S nm0, I p0, I o0, S nm1, I p1, I o1]⟩), (5, ⟨34, f5V D F⟩), (11, ⟨93, wdC (lfS W xs D F i k)⟩)]) (fun k => k ≤ xs.length) (fun k => xs.length - k) 0 (Nat.zero_le _) (And.intro rfl (And.intro rfl (And.intro rfl (And.intro rfl (And.intro rfl (And.intro rfl trivial)))))) (And.intro rfl (And.intro rfl (And.intro rfl trivial))) fun k hk => ?_
    by_cases hlt : k < xs.length
    · have r0 := hrb k 0 (by decide)
      have r0' : rsP W xs D F k 0 = D * nth xs k := rfl
      rw [r0'] at r0
      have r1 := hrb k 1 (by decide)
      have r2 := hrb k 2 (by decide)
      have r3 := hrb k 3 (by decide)
      have r4 := hrb k 4 (by decide)
      have pw := hpt i k hi4 hlt
      have pj := fun j (hj : j < 4) => hpt j k hj hlt
      have xk := hx k
      have fj := fun j (hj : j < 4) => mul_one_bnd (hW k j) (hFb j hj)
      have m4 := mul_one_bnd (b := rsP W xs D F k 4) (B := 14000000000000000) (hW k i) (by omega)
      have lk1 := hlb i k
      have wo := bigOf_A (W k i * rsP W xs D F k 4) ⟨by omega, by omega⟩
      have wa := wideAdd_A (lfS W xs D F i k) (W k i * rsP W xs D F k 4) (Nat.le_trans (wlen_int ⟨by omega, by omega⟩) (by decide)) (Nat.le_trans (wlen_int ⟨by omega, by omega⟩) (by decide))
      have hrj := fun j hj => hrb k j hj
      clear hpt hrb hlb hW hx hFb c4 c5 hf hres r1 r2 r3 lk1
      (repeat' (first | (with_reducible first | intro hg | refine mv (by constructor) ?_) | ((with_reducible first | refine zR ?_ ?_ | refine zW mixed ?_ ?_); exact kr) | ((with_reducible apply zK); exact rfl; exact tf) | ((with_reducible apply zCD); exact rfl) | ((with_reducible apply zCN); exact rfl) | ((with_reducible apply zC); exact rfl) | ((with_reducible refine zX ?_ ?_); exact rfl) | ((with_reducible refine zE (And.intro ?_ ?_)); exact kr) | (with_reducible refine zE ?_) | ((with_reducible apply zP); (first | exact o_indexI (xs := xs) (j := k) rfl rfl hlt rfl | exact dp)) | ((with_reducible apply zN); exact dn) | ((with_reducible apply zA); exact da) | ((with_reducible apply zS); exact ds) | ((with_reducible apply zY); exact rfl; exact rfl; exact tf) | ((with_reducible apply zG); exact rfl; exact rfl; exact tf) | ((with_reducible apply zU); exact rfl; exact rfl) | ((with_reducible apply zD); exact rfl; exact rfl) | ((with_reducible apply zB); exact rfl; exact rfl)))
      refine awp_loopL (α := Nat) (fun j => [(0, .d (isl xs)), (4, .ptr 4 0), (5, .ptr 5 0), (10, .d (I i)), (11, .ptr 11 0), (12, .d (I k)), (13, .d (I (rsP W xs D F k j))), (14, .d (I j))]) (fun _ => [(4, ⟨25, [S nm0, I p0, I o0, S nm1, I p1, I o1]⟩), (5, ⟨34, f5V D F⟩), (11, ⟨93, wdC (lfS W xs D F i k)⟩)]) (fun j => j ≤ 4) (fun j => 4 - j) 0 (Nat.zero_le _) (And.intro rfl (And.intro rfl (And.intro rfl (And.intro rfl (And.intro rfl (And.intro rfl (And.intro rfl (And.intro rfl trivial)))))))) (And.intro rfl (And.intro rfl (And.intro rfl trivial))) fun j hj => ?_
      by_cases hj4 : j < 4
      · have q := pj j hj4
        have f1 := fj j hj4
        have s1 := hrj j hj
        have s2 := hrj (j + 1) (by omega)
        rw [Int.mul_comm] at f1
        clear pj fj hrj m4 wo wa r4
        (repeat' (first | (with_reducible first | intro hg | refine mv (by constructor) ?_) | ((with_reducible first | refine zR ?_ ?_ | refine zW mixed ?_ ?_); exact kr) | ((with_reducible apply zK); exact rfl; exact tf) | ((with_reducible apply zCD); exact rfl) | ((with_reducible apply zCN); exact rfl) | ((with_reducible apply zC); exact rfl) | ((with_reducible refine zX ?_ ?_); exact rfl) | ((with_reducible refine zE (And.intro ?_ ?_)); exact kr) | (with_reducible refine zE ?_) | ((with_reducible apply zP); (first | exact o_load1 rfl rfl (f5V_get hj4) | exact dp | exact oc rfl (q))) | ((with_reducible apply zN); exact dn) | ((with_reducible apply zA); exact da) | ((with_reducible apply zS); exact ds) | ((with_reducible apply zY); exact rfl; exact rfl; exact tf) | ((with_reducible apply zG); exact rfl; exact rfl; exact tf) | ((with_reducible apply zU); exact rfl; exact rfl) | ((with_reducible apply zD); exact rfl; exact rfl) | ((with_reducible apply zB); exact rfl; exact rfl)))
        exact ⟨j + 1, by omega, by omega, (And.intro rfl (And.intro rfl (And.intro rfl (And.intro rfl (And.intro rfl (And.intro rfl (And.intro rfl (And.intro rfl trivial)))))))), (And.intro rfl (And.intro rfl (And.intro rfl trivial)))⟩
      · obtain rfl : j = 4 := by omega
        clear pj fj hrj
        (repeat' (first | (with_reducible first | intro hg | refine mv (by constructor) ?_) | ((with_reducible first | refine zR ?_ ?_ | refine zW mixed ?_ ?_); exact kr) | ((with_reducible apply zK); exact rfl; exact tf) | ((with_reducible apply zCD); exact rfl) | ((with_reducible apply zCN); exact rfl) | ((with_reducible apply zC); exact rfl) | ((with_reducible refine zX ?_ ?_); exact rfl) | ((with_reducible refine zE (And.intro ?_ ?_)); exact kr) | (with_reducible refine zE ?_) | ((with_reducible apply zP); (first | exact dp | exact oc rfl (pw) | exact oc rfl (wo) | exact oc rfl (wa))) | ((with_reducible apply zN); exact dn) | ((with_reducible apply zA); exact da) | ((with_reducible apply zS); exact ds) | ((with_reducible apply zY); exact rfl; exact rfl; exact tf) | ((with_reducible apply zG); exact rfl; exact rfl; exact tf) | ((with_reducible apply zU); exact rfl; exact rfl) | ((with_reducible apply zD); exact rfl; exact rfl) | ((with_reducible apply zB); exact rfl; exact rfl)))
        exact ⟨k + 1, hlt, by omega, (And.intro rfl (And.intro rfl (And.intro rfl (And.intro rfl (And.intro rfl (And.intro rfl trivial)))))), (And.intro rfl (And.intro rfl (And.intro rfl trivial)))⟩
    · obtain rfl : k = xs.length := by omega
      have ws := wideSign_A (lfS W xs D F i xs.length)
      rw [fstI_at _ hi4] at hf
      by_cases hz : lfS W xs D F i xs.length = 0
      · have hp : nzF W xs xs.length D F i = false := by unfold nzF; rw [hz]; rfl
        rw [hp] at hf
        rw [hz] at ws
        rw [hz]
        clear hpt hrb hlb hW hx hFb c4 c5 hres hz hp
        (repeat' (first | (with_reducible first | intro hg | refine mv (by constructor) ?_) | ((with_reducible first | refine zR ?_ ?_ | refine zW mixed ?_ ?_); exact kr) | ((with_reducible apply zK); exact rfl; exact tf) | ((with_reducible apply zCD); exact rfl) | ((with_reducible apply zCN); exact rfl) | ((with_reducible apply zC); exact rfl) | ((with_reducible refine zX ?_ ?_); exact rfl) | ((with_reducible refine zE (And.intro ?_ ?_)); exact kr) | (with_reducible refine zE ?_) | ((with_reducible apply zP); (first | exact dp | exact oc rfl (ws))) | ((with_reducible apply zN); exact dn) | ((with_reducible apply zA); exact da) | ((with_reducible apply zS); exact ds) | ((with_reducible apply zY); exact rfl; exact rfl; exact tf) | ((with_reducible apply zG); exact rfl; exact rfl; exact tf) | ((with_reducible apply zU); exact rfl; exact rfl) | ((with_reducible apply zD); exact rfl; exact rfl) | ((with_reducible apply zB); exact rfl; exact rfl)))
        exact ⟨i + 1, ⟨by omega, hf⟩, by omega, (And.intro rfl (And.intro rfl (And.intro rfl (And.intro rfl trivial)))), (And.intro rfl (And.intro rfl trivial))⟩
      · have hp : nzF W xs xs.length D F i = true := by unfold nzF; exact decide_eq_true hz
        rw [hp] at hf
        have hf : i = fstI (nzF W xs xs.length D F) 0 4 := hf
        have hsg : ¬ (lfS W xs D F i xs.length).sign = 0 := fun e => hz (Int.sign_eq_zero_iff_zero.1 e)
        rw [hres, c4 i hf hi4]
        generalize (lfS W xs D F i xs.length).sign = sg at *
        clear hpt hrb hlb hW hx hFb c4 c5 hres hz hp hf
        (repeat' (first | (with_reducible first | intro hg | refine mv (by constructor) ?_) | ((with_reducible first | refine zR ?_ ?_ | refine zW mixed ?_ ?_); exact kr) | ((with_reducible apply zK); exact rfl; exact tf) | ((with_reducible apply zCD); exact rfl) | ((with_reducible apply zCN); exact rfl) | ((with_reducible apply zC); exact rfl) | ((with_reducible refine zX ?_ ?_); exact rfl) | ((with_reducible refine zE (And.intro ?_ ?_)); exact kr) | (with_reducible refine zE ?_) | ((with_reducible apply zP); (first | exact dp | exact oc rfl (ws))) | ((with_reducible apply zN); exact dn) | ((with_reducible apply zA); exact da) | ((with_reducible apply zS); exact ds) | ((with_reducible apply zY); exact rfl; exact rfl; exact tf) | ((with_reducible apply zG); exact rfl; exact rfl; exact tf) | ((with_reducible apply zU); exact rfl; exact rfl) | ((with_reducible apply zD); exact rfl; exact rfl) | ((with_reducible apply zB); exact rfl; exact rfl)))
        ((with_reducible first | apply q_retR | apply q_retN); exact rl)
        rfl
  · obtain rfl : i = 4 := by omega
    have hf : 4 = fstI (nzF W xs xs.length D F) 0 4 := hf
    rw [hres, c5 (by omega)]
    clear hpt hrb hlb hW hx hFb c4 c5 hres hf
    (repeat' (first | (with_reducible first | intro hg | refine mv (by constructor) ?_) | ((with_reducible first | refine zR ?_ ?_ | refine zW mixed ?_ ?_); exact kr) | ((with_reducible apply zK); exact rfl; exact tf) | ((with_reducible apply zCD); exact rfl) | ((with_reducible apply zCN); exact rfl) | ((with_reducible apply zC); exact rfl) | ((with_reducible refine zX ?_ ?_); exact rfl) | ((with_reducible refine zE (And.intro ?_ ?_)); exact kr) | (with_reducible refine zE ?_) | ((with_reducible apply zP); exact dp) | ((with_reducible apply zN); exact dn) | ((with_reducible apply zA); exact da) | ((with_reducible apply zS); exact ds) | ((with_reducible apply zY); exact rfl; exact rfl; exact tf) | ((with_reducible apply zG); exact rfl; exact rfl; exact tf) | ((with_reducible apply zU); exact rfl; exact rfl) | ((with_reducible apply zD); exact rfl; exact rfl) | ((with_reducible apply zB); exact rfl; exact rfl)))
    ((with_reducible first | apply q_retR | apply q_retN); exact rl)
    rfl

end Go.Proofs.Ytgjhikjnlcbmkaa
