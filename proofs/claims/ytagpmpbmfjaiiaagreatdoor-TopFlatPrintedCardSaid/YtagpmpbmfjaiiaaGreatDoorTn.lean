/- The law FlatWorn, first part: what wear does. -/
import Derived.Test.YtagpmpbmfjaiiaaGreatDoorTl
set_option linter.unusedVariables false
set_option linter.unusedSimpArgs false
namespace Go.Proofs.YtagpmpbmfjaiiaaGreatDoor
open Go.RowKit
set_option maxRecDepth 20000
set_option maxHeartbeats 8000000

def wear1 (s : Strp) (a : Int) : Int := bif inR a s.lo s.hi then s.wear else 0
def wsum : List Strp → Int → Int
  | [], _ => 0
  | s :: l, a => wear1 s a + wsum l a
abbrev wearAt (l : List Strp) (p : Int × Int) : Int × Int := (p.1, p.2 - wsum l p.1)
def wearL (l : List Strp) (c : List (Int × Int)) : List (Int × Int) := c.map (wearAt l)
theorem wearL_len (l : List Strp) (c : List (Int × Int)) : (wearL l c).length = c.length := by simp [wearL]
theorem wearP_eq (s : Strp) (p : Int × Int) : wearP s p = (p.1, p.2 - wear1 s p.1) := by
  unfold wearP wear1
  cases inR p.1 s.lo s.hi
  · show p = (p.1, p.2 - 0); rw [Int.sub_zero]
  · rfl
theorem wearL_cons (s : Strp) (l : List Strp) (c : List (Int × Int)) : wearL (s :: l) c = wearL l (c.map (wearP s)) := by
  unfold wearL
  rw [List.map_map]
  refine List.map_congr_left fun p _ => ?_
  show (p.1, p.2 - (wear1 s p.1 + wsum l p.1)) = ((wearP s p).1, (wearP s p).2 - wsum l (wearP s p).1)
  rw [wearP_eq]
  refine Prod.ext rfl ?_
  show p.2 - (wear1 s p.1 + wsum l p.1) = p.2 - wear1 s p.1 - wsum l p.1
  omega
theorem wearL_cons2 (s : Strp) (l : List Strp) (c : List (Int × Int)) : wearL (s :: l) c = (wearL l c).map (wearP s) := by
  unfold wearL
  rw [List.map_map]
  refine List.map_congr_left fun p _ => ?_
  show (p.1, p.2 - (wear1 s p.1 + wsum l p.1)) = wearP s (p.1, p.2 - wsum l p.1)
  rw [wearP_eq]
  refine Prod.ext rfl ?_
  show p.2 - (wear1 s p.1 + wsum l p.1) = p.2 - wsum l p.1 - wear1 s p.1
  omega
theorem wearL_nil (c : List (Int × Int)) : wearL [] c = c := by
  unfold wearL
  have : ∀ p ∈ c, wearAt [] p = p := fun p _ => by show (p.1, p.2 - 0) = p; rw [Int.sub_zero]
  rw [List.map_congr_left this, List.map_id']
theorem wsum_app (a : List Strp) (s : Strp) (x : Int) : wsum (a ++ [s]) x = wsum a x + wear1 s x := by
  induction a with
  | nil => show wear1 s x + 0 = 0 + wear1 s x; omega
  | cons y a ih => show wear1 y x + wsum (a ++ [s]) x = wear1 y x + wsum a x + wear1 s x; omega
theorem wsum_rev (l : List Strp) (x : Int) : wsum l.reverse x = wsum l x := by
  induction l with
  | nil => rfl
  | cons s l ih => rw [List.reverse_cons, wsum_app, ih]; show _ = wear1 s x + wsum l x; omega
theorem wearL_rev (l : List Strp) (c : List (Int × Int)) : wearL l.reverse c = wearL l c := by
  unfold wearL
  refine List.map_congr_left fun p _ => ?_
  show (p.1, p.2 - wsum l.reverse p.1) = (p.1, p.2 - wsum l p.1)
  rw [wsum_rev]
def StOk (l : List Strp) : Prop := ∀ s ∈ l, stpE s = 0
theorem wornL_ok : ∀ (l : List Strp) (c : List (Int × Int)), StOk l → wornL l c = (wearL l c, 0)
  | [], c, _ => by rw [wearL_nil]; rfl
  | s :: l, c, h => by
    rw [wornL_zero (h s List.mem_cons_self), wornL_ok l _ fun x hx => h x (List.mem_cons_of_mem _ hx), wearL_cons]
theorem wornL_bad : ∀ (l : List Strp) (c : List (Int × Int)), (wornL l c).2 = 0 → StOk l
  | [], _, _ => fun s hs => by simp at hs
  | s :: l, c, h => fun x hx => by
    by_cases he : stpE s = 0
    · rw [wornL_zero he] at h
      rcases List.mem_cons.1 hx with rfl | hx
      · exact he
      · exact wornL_bad l _ h x hx
    · rw [wornL_ne rfl he] at h; exact absurd h he
theorem wsum_nn {l : List Strp} (h : StOk l) (x : Int) : 0 ≤ wsum l x := by
  induction l with
  | nil => exact Int.le_refl _
  | cons s l ih =>
    have h1 := ih fun y hy => h y (List.mem_cons_of_mem _ hy)
    obtain ⟨_, _, _, h2, _⟩ := stpE_ok (h s List.mem_cons_self)
    show 0 ≤ wear1 s x + wsum l x
    unfold wear1
    cases inR x s.lo s.hi
    · show 0 ≤ 0 + wsum l x; omega
    · show 0 ≤ s.wear + wsum l x; omega
/-- Heights before and after wear: at the same points. -/
inductive HtRel (t : Int) : (Int × Int) × Int → (Int × Int) × Int → Prop
  | out : HtRel t ((0, 0), 21) ((0, 0), 21)
  | at {a b : Int × Int} {u v : Int} (h1 : a.1 ≤ t) (h2 : t ≤ b.1) (h3 : a.1 < b.1) (h4 : 0 ≤ a.1 ∧ b.1 ≤ 10000) (hu : 0 ≤ u) (hv : 0 ≤ v) (ha : -100000 ≤ a.2 - u ∧ a.2 ≤ 100000) (hb : -100000 ≤ b.2 - v ∧ b.2 ≤ 100000) : HtRel t (low (htN a b t) (b.1 - a.1), 0) (low (htN (a.1, a.2 - u) (b.1, b.2 - v) t) (b.1 - a.1), 0)
theorem htRel (t : Int) {l : List Strp} (hl : StOk l) : ∀ (c : List (Int × Int)) (last : Int), CtOk c last → CtOk (wearL l c) last → HtRel t (htL t c) (htL t (wearL l c))
  | [], _, _, _ => .out
  | [_], _, _, _ => .out
  | a :: b :: c, last, h, h' => by
    have e : wearL l (a :: b :: c) = (a.1, a.2 - wsum l a.1) :: (b.1, b.2 - wsum l b.1) :: wearL l c := rfl
    rw [e] at h' ⊢
    cases hq : inR t a.1 b.1
    · rw [htL_out hq, htL_out (a := (a.1, a.2 - wsum l a.1)) (b := (b.1, b.2 - wsum l b.1)) hq]
      exact htRel t hl (b :: c) a.1 h.2 h'.2
    · rw [htL_in hq, htL_in (a := (a.1, a.2 - wsum l a.1)) (b := (b.1, b.2 - wsum l b.1)) hq]
      obtain ⟨q1, q2⟩ := inR_iff.1 hq
      exact .at q1 q2 h.2.1.2.2 ⟨h.1.1.1, h.2.1.1.2⟩ (wsum_nn hl _) (wsum_nn hl _) ⟨h'.1.2.1.1, h.1.2.1.2⟩ ⟨h'.2.1.2.1.1, h.2.1.2.1.2⟩
theorem low_mul2 {n d : Int} (h : 0 < d) : 0 < (Int.gcd n d : Int) ∧ n = (Int.gcd n d : Int) * (low n d).1 ∧ d = (Int.gcd n d : Int) * (low n d).2 := by
  have hg : 0 < Int.gcd n d := Int.gcd_pos_of_ne_zero_right n (by omega)
  refine ⟨by omega, ?_, ?_⟩
  · exact (Int.mul_tdiv_cancel' (Int.gcd_dvd_left ..)).symm
  · exact (Int.mul_ediv_cancel' (Int.gcd_dvd_right ..)).symm
theorem low_size {n d : Int} (h : 0 < d) : (low n d).1.natAbs ≤ n.natAbs ∧ 0 < (low n d).2 ∧ (low n d).2 ≤ d := by
  obtain ⟨g, h1, h2⟩ := low_mul2 (n := n) h
  refine ⟨Int.natAbs_tdiv_le_natAbs n _, ?_, ?_⟩
  · refine Decidable.byContradiction fun hn => ?_
    have : (Int.gcd n d : Int) * (low n d).2 ≤ (Int.gcd n d : Int) * 0 := Int.mul_le_mul_of_nonneg_left (by omega) (by omega)
    omega
  · exact Int.ediv_le_self _ (Int.le_of_lt h)
theorem low_le {n m d : Int} (h : 0 < d) (hnm : m ≤ n) : (low m d).1 * (low n d).2 ≤ (low n d).1 * (low m d).2 := by
  obtain ⟨g, h1, h2⟩ := low_mul2 (n := n) h
  obtain ⟨g', h1', h2'⟩ := low_mul2 (n := m) h
  generalize (Int.gcd n d : Int) = p at *
  generalize (Int.gcd m d : Int) = q at *
  generalize low n d = x at *
  generalize low m d = y at *
  have e1 : (p * q) * (y.1 * x.2) = m * d := by rw [h1', h2]; grind
  have e2 : (p * q) * (x.1 * y.2) = n * d := by
    have : n * d = (p * x.1) * (q * y.2) := by rw [← h1, ← h2']
    rw [this]; grind
  refine Int.le_of_mul_le_mul_left ?_ (Int.mul_pos g g')
  rw [e1, e2]
  exact Int.mul_le_mul_of_nonneg_right hnm (by omega)
theorem htN_eq (a b : Int × Int) (t : Int) : htN a b t = a.2 * (b.1 - t) + b.2 * (t - a.1) := by unfold htN; grind
theorem sub_mul_le {x u d : Int} (hu : 0 ≤ u) (hd : 0 ≤ d) : (x - u) * d ≤ x * d := Int.mul_le_mul_of_nonneg_right (by omega) hd
theorem in_mul {x d : Int} (h : -100000 ≤ x ∧ x ≤ 100000) (hd : 0 ≤ d) : -100000 * d ≤ x * d ∧ x * d ≤ 100000 * d := ⟨Int.mul_le_mul_of_nonneg_right h.1 hd, Int.mul_le_mul_of_nonneg_right h.2 hd⟩
/-- What is known of both heights. -/
def HtFin (x y : (Int × Int) × Int) : Prop := x.2 = y.2 ∧ (x.2 = 0 → (-1000000000 ≤ x.1.1 ∧ x.1.1 ≤ 1000000000) ∧ (0 < x.1.2 ∧ x.1.2 ≤ 10000) ∧ (-1000000000 ≤ y.1.1 ∧ y.1.1 ≤ 1000000000) ∧ (0 < y.1.2 ∧ y.1.2 ≤ 10000) ∧ y.1.1 * x.1.2 ≤ x.1.1 * y.1.2)
theorem HtRel.fin {t : Int} {x y : (Int × Int) × Int} (h : HtRel t x y) : HtFin x y := by
  cases h with
  | out => exact ⟨rfl, fun h => by simp at h⟩
  | @«at» a b u v h1 h2 h3 h4 hu hv ha hb =>
    refine ⟨rfl, fun _ => ?_⟩
    dsimp only
    have hd : 0 < b.1 - a.1 := by omega
    have e1 := htN_eq a b t
    have e2 : htN (a.1, a.2 - u) (b.1, b.2 - v) t = (a.2 - u) * (b.1 - t) + (b.2 - v) * (t - a.1) := htN_eq _ _ t
    have m1 := sub_mul_le (x := a.2) hu (d := b.1 - t) (by omega)
    have m2 := sub_mul_le (x := b.2) hv (d := t - a.1) (by omega)
    have k1 := in_mul (x := a.2) (d := b.1 - t) ⟨by omega, by omega⟩ (by omega)
    have k2 := in_mul (x := b.2) (d := t - a.1) ⟨by omega, by omega⟩ (by omega)
    have k3 := in_mul (x := a.2 - u) (d := b.1 - t) ⟨by omega, by omega⟩ (by omega)
    have k4 := in_mul (x := b.2 - v) (d := t - a.1) ⟨by omega, by omega⟩ (by omega)
    have s1 := low_size (n := htN a b t) hd
    have s2 := low_size (n := htN (a.1, a.2 - u) (b.1, b.2 - v) t) hd
    have hle := low_le (n := htN a b t) (m := htN (a.1, a.2 - u) (b.1, b.2 - v) t) hd (by omega)
    exact ⟨⟨by omega, by omega⟩, ⟨s1.2.1, by omega⟩, ⟨by omega, by omega⟩, ⟨s2.2.1, by omega⟩, hle⟩
end Go.Proofs.YtagpmpbmfjaiiaaGreatDoor
