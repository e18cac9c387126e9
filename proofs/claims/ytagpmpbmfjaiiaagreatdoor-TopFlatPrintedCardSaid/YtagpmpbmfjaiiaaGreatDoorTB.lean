/- The roll that is printed on the strip: plain facts. -/
import Derived.Test.YtagpmpbmfjaiiaaGreatDoorTn
set_option linter.unusedVariables false
set_option linter.unusedSimpArgs false
namespace Go.Proofs.YtagpmpbmfjaiiaaGreatDoor
open Go.RowKit
set_option maxRecDepth 20000

theorem wear1_le {s : Strp} (h : stpE s = 0) (x : Int) : 0 ≤ wear1 s x ∧ wear1 s x ≤ 1000 := by
  have h1 := (stpE_ok h).2.2.2
  unfold wear1
  cases inR x s.lo s.hi
  · exact ⟨Int.le_refl 0, show (0 : Int) ≤ 1000 by decide⟩
  · exact h1
theorem wsum_le : ∀ {l : List Strp}, StOk l → ∀ x, 0 ≤ wsum l x ∧ wsum l x ≤ 1000 * (l.length : Int)
  | [], _, x => ⟨Int.le_refl _, show (0 : Int) ≤ 1000 * ((0 : Nat) : Int) by decide⟩
  | s :: l, h, x => by
    have h1 := wear1_le (h s List.mem_cons_self) x
    have h2 := wsum_le (l := l) (fun y hy => h y (List.mem_cons_of_mem _ hy)) x
    show 0 ≤ wear1 s x + wsum l x ∧ wear1 s x + wsum l x ≤ 1000 * ((l.length + 1 : Nat) : Int)
    omega
theorem CtOk_wear {l : List Strp} (hl : StOk l) (h20 : l.length ≤ 20) : ∀ (c : List (Int × Int)) (last : Int), CtOk c last → (∀ p ∈ c, -300 ≤ p.2 ∧ p.2 ≤ 300) → CtOk (wearL l c) last
  | [], _, _, _ => trivial
  | p :: c, last, h, hh => by
    have h1 := wsum_le hl p.1
    have h2 := hh p List.mem_cons_self
    obtain ⟨⟨g1, g2, g3⟩, g4⟩ := h
    refine ⟨⟨g1, ?_, g3⟩, CtOk_wear hl h20 c p.1 g4 fun q hq => hh q (List.mem_cons_of_mem _ hq)⟩
    show -100000 ≤ p.2 - wsum l p.1 ∧ p.2 - wsum l p.1 ≤ 100000
    omega
theorem ptsE_of : ∀ (c : List (Int × Int)) (last : Int) (k : Nat), CtOk c last → (ptsE c last k).2 = 0
  | [], _, _, _ => rfl
  | p :: c, last, k, h => by
    obtain ⟨⟨g1, g2, g3⟩, g4⟩ := h
    have hz : ptE last p = 0 := by
      unfold ptE
      rw [inR_iff.2 g1, inR_iff.2 g2, decide_eq_true g3]; rfl
    rw [ptsE_zero hz]
    exact ptsE_of c p.1 (k + 1) g4
theorem contE_of {c : List (Int × Int)} (h2 : 2 ≤ c.length) (h10 : c.length ≤ 10) (h : CtOk c (-1)) : (contE c).2 = 0 := by
  have h0 : ctH c = 0 := by
    unfold ctH
    rw [decide_eq_true (by omega), decide_eq_true (by omega)]; rfl
  rw [contE_p h0]
  exact ptsE_of c (-1) 0 h
theorem lowP_low {n d : Int} (h : 0 < d) : lowP (low n d) = true := by
  obtain ⟨h1, h2, h3⟩ := low_mul2 (n := n) h
  have hg : Int.gcd (low n d).1 (low n d).2 = 1 := by
    have := Int.gcd_mul_left (Int.gcd n d : Int) (low n d).1 (low n d).2
    rw [← h2, ← h3] at this
    have e : (Int.gcd n d : Int).natAbs = Int.gcd n d := by omega
    rw [e] at this
    have h4 : 0 < Int.gcd n d := by omega
    exact Nat.eq_of_mul_eq_mul_left h4 (by rw [← this, Nat.mul_one])
  unfold lowP
  rw [hg, decide_eq_true (low_pos h)]; rfl
/-- The heights of a valid contour are small fractions in lowest terms. -/
theorem htL_ok (t : Int) : ∀ (c : List (Int × Int)) (last : Int), CtOk c last → (htL t c).2 = 0 → lowP (htL t c).1 = true ∧ smF (htL t c).1 = true
  | [], _, _, h => absurd (show (21 : Int) = 0 from h) (by decide)
  | [_], _, _, h => absurd (show (21 : Int) = 0 from h) (by decide)
  | a :: b :: c, last, hc, h => by
    cases hin : inR t a.1 b.1
    · rw [htL_out hin] at h ⊢
      exact htL_ok t (b :: c) a.1 hc.2 h
    · rw [htL_in hin]
      obtain ⟨t1, t2⟩ := inR_iff.1 hin
      obtain ⟨⟨a1, a2, _⟩, ⟨⟨b1, b2, b3⟩, _⟩⟩ := hc
      have hd : 0 < b.1 - a.1 := by omega
      refine ⟨lowP_low hd, ?_⟩
      show smF (low (htN a b t) (b.1 - a.1)) = true
      obtain ⟨s1, s2, s3⟩ := low_size (n := htN a b t) hd
      have m1 := in_mul (d := b.1 - t) a2 (by omega)
      have m2 := in_mul (d := t - a.1) b2 (by omega)
      have hN : (htN a b t).natAbs ≤ 1000000000 := by
        rw [htN_eq]
        omega
      unfold smF
      rw [inR_iff.2 (show -1000000000 ≤ (low (htN a b t) (b.1 - a.1)).1 ∧ (low (htN a b t) (b.1 - a.1)).1 ≤ 1000000000 by omega), decide_eq_true (by omega)]; rfl
theorem htL_zero (t : Int) : ∀ (c : List (Int × Int)) (a : Int × Int), a.1 ≤ t → c ≠ [] → t ≤ ((a :: c).getD c.length f0).1 → (htL t (a :: c)).2 = 0
  | [], _, _, h, _ => absurd rfl h
  | b :: c, a, h1, _, h2 => by
    cases hin : inR t a.1 b.1
    · rw [htL_out hin]
      have hb : b.1 ≤ t := by
        rcases inR_false.1 hin with h | h <;> omega
      have h3 : t ≤ ((b :: c).getD c.length f0).1 := h2
      refine htL_zero t c b hb (fun e => ?_) h3
      subst e
      have h3 : t ≤ b.1 := h3
      have : inR t a.1 b.1 = true := inR_iff.2 ⟨h1, h3⟩
      rw [hin] at this; cases this
    · rw [htL_in hin]
theorem wearL_getD (l : List Strp) {c : List (Int × Int)} {k : Nat} (hk : k < c.length) : ((wearL l c).getD k f0).1 = (c.getD k f0).1 := by
  unfold wearL
  rw [List.getD_eq_getElem?_getD, List.getElem?_map, List.getElem?_eq_getElem hk, List.getD_eq_getElem?_getD, List.getElem?_eq_getElem hk]; rfl
/-- Rounded up. -/
def cl (n d : Int) : Int := -(-n / d)
theorem cl_bnd {n d : Int} (hn : -1000000000 ≤ n ∧ n ≤ 1000000000) (hd : 0 < d) : -1000000000 ≤ cl n d ∧ cl n d ≤ 1000000000 := by
  have h1 : -1000000000 ≤ -n / d := by
    refine Int.le_ediv_of_mul_le hd ?_
    have := Int.mul_le_mul_of_nonneg_left (show (1 : Int) ≤ d by omega) (show (0 : Int) ≤ 1000000000 by decide)
    omega
  have h2 : -n / d ≤ 1000000000 := by
    refine Int.le_of_lt_add_one (Int.ediv_lt_of_lt_mul hd ?_)
    have := Int.mul_le_mul_of_nonneg_left (show (1 : Int) ≤ d by omega) (show (0 : Int) ≤ 1000000001 by decide)
    omega
  unfold cl
  omega
/-- What a printed contour is told by: valid, with heights at the positions. -/
structure PrOk (W : List (Int × Int)) (n : Nat) : Prop where
  ok : (contE W).2 = 0
  z : ∀ i, i < n → (htL (100 * (i : Int)) W).2 = 0 ∧ lowP (htL (100 * (i : Int)) W).1 = true ∧ smF (htL (100 * (i : Int)) W).1 = true
theorem prOk {c : List (Int × Int)} {l : List Strp} {n : Nat} (hc : (contE c).2 = 0) (hl : StOk l) (h20 : l.length ≤ 20) (hh : ∀ p ∈ c, -300 ≤ p.2 ∧ p.2 ≤ 300) (h0 : (c.getD 0 f0).1 = 0) (h8 : 800 ≤ (c.getD (c.length - 1) f0).1) (hn : n ≤ 9) : PrOk (wearL l c) n := by
  obtain ⟨c2, c10, ck⟩ := contE_ok hc
  have hw := CtOk_wear hl h20 c (-1) ck hh
  have hlen := wearL_len l c
  refine ⟨contE_of (by omega) (by omega) hw, fun i hi => ?_⟩
  have hz : (htL (100 * (i : Int)) (wearL l c)).2 = 0 := by
    have g0 := wearL_getD l (c := c) (k := 0) (by omega)
    have g8 := wearL_getD l (c := c) (k := c.length - 1) (by omega)
    rw [h0] at g0
    generalize wearL l c = W at *
    match W, hlen, g0, g8 with
    | [], hlen, _, _ => exact absurd hlen (by simp only [List.length_nil]; omega)
    | a :: W, hlen, g0, g8 =>
      have g0 : a.1 = 0 := g0
      have hWl : W.length = c.length - 1 := by simp only [List.length_cons] at hlen; omega
      refine htL_zero _ W a (by omega) (fun e => by rw [e] at hWl; simp only [List.length_nil] at hWl; omega) ?_
      rw [hWl, g8]
      omega
  exact ⟨hz, htL_ok _ _ _ hw hz⟩
/-- The strips, over the whole roll. -/
def evS (l : List Strp) : List Strp := l.map fun s => ⟨0, 1000, s.wear⟩
theorem evS_ok {l : List Strp} (h : StOk l) : StOk (evS l) := fun s hs => by
  obtain ⟨x, hx, rfl⟩ := List.mem_map.1 hs
  have h1 := (stpE_ok (h x hx)).2.2.2
  unfold stpE
  rw [inR_iff.2 (show (0 : Int) ≤ 0 ∧ (0 : Int) ≤ 10000 by decide), inR_iff.2 (show (0 : Int) ≤ 1000 ∧ (1000 : Int) ≤ 10000 by decide), inR_iff.2 h1]; rfl
theorem evS_sum : ∀ (l : List Strp), wsum (evS l) 0 = wsum (evS l) 1000
  | [] => rfl
  | s :: l => by
    show s.wear + wsum (evS l) 0 = s.wear + wsum (evS l) 1000
    rw [evS_sum l]
abbrev flat2 : List (Int × Int) := [(0, 0), (1000, 0)]
theorem evS_worn {l : List Strp} (h : StOk l) : wornL (evS l) flat2 = ([(0, 0 - wsum (evS l) 0), (1000, 0 - wsum (evS l) 0)], 0) := by
  rw [wornL_ok _ _ (evS_ok h)]
  show ([(0, 0 - wsum (evS l) 0), (1000, 0 - wsum (evS l) 1000)], (0 : Int)) = _
  rw [evS_sum l]
theorem sumT_const (G : Int) (n : Nat) : ∀ k, k ≤ n → sumT (lst (fun _ => G) n) k = G * k
  | 0, _ => by show (0 : Int) = G * 0; omega
  | k + 1, hk => by
    show sumT (lst (fun _ => G) n) k + nth (lst (fun _ => G) n) k = _
    rw [sumT_const G n k (by omega), lst_nth _ (by omega)]
    show G * (k : Int) + G = G * ((k + 1 : Nat) : Int)
    rw [show ((k + 1 : Nat) : Int) = (k : Int) + 1 by omega, Int.mul_add, Int.mul_one]
theorem low_zero {d : Int} (h : 0 < d) : low 0 d = (0, 1) := by
  unfold low
  have : Int.gcd 0 d = d.natAbs := Int.gcd_zero_left d
  rw [this]
  have e : (d.natAbs : Int) = d := by omega
  rw [e, Int.zero_tdiv, Int.ediv_self (by omega)]
theorem ch_const {G H : Int} (hG : 0 < G) (hH : 0 < H) {n i : Nat} (hi : i < n) : chF (lst (fun _ => G) n) (lst (fun _ => H) n) i = (0, 1) := by
  have hs : ∀ X : Int, sumL (lst (fun _ => X) n) = X * n := fun X => by
    unfold sumL
    rw [lst_length]
    exact sumT_const X n n (Nat.le_refl _)
  unfold chF
  rw [hs G, hs H, lst_nth _ hi, lst_nth _ hi]
  have e : G * (H * (n : Int)) - H * (G * (n : Int)) = 0 := by rw [Int.mul_left_comm]; omega
  have hp : 0 < H * (G * (n : Int)) := Int.mul_pos hH (Int.mul_pos hG (by omega))
  show low (G * (H * (n : Int)) - H * (G * (n : Int))) (H * (G * (n : Int))) = _
  rw [e]
  exact low_zero hp
theorem chA_const {G H : Int} (hG : 0 < G) (hH : 0 < H) {n : Nat} : ∀ k, k ≤ n → chA (lst (fun _ => G) n) (lst (fun _ => H) n) k = true
  | 0, _ => rfl
  | k + 1, hk => by
    show (chA (lst (fun _ => G) n) (lst (fun _ => H) n) k && smF (chF (lst (fun _ => G) n) (lst (fun _ => H) n) k)) = true
    rw [chA_const hG hH k (by omega), ch_const hG hH (by omega)]; rfl
theorem prE_const {G : Int} {n : Nat} (h1 : 3 ≤ n) (h2 : n % 2 = 1) (h3 : n ≤ 9) (hG : 1 ≤ G ∧ G ≤ 100000) : prE (lst (fun _ => G) n) = 0 := by
  have hall : ((lst (fun _ => G) n).any fun x => !inR x 1 100000) = false := by
    rw [List.any_eq_false]
    intro x hx
    obtain ⟨i, _, rfl⟩ := List.mem_map.1 hx
    rw [inR_iff.2 hG]; decide
  unfold prE
  rw [hall, lst_length, decide_eq_true (by omega), decide_eq_true (by omega), decide_eq_true (by omega)]; rfl

end Go.Proofs.YtagpmpbmfjaiiaaGreatDoor
