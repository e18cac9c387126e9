/- The law FlatBuckles: what it answers. -/
import Derived.Test.YtagpmpbmfjaiiaaGreatDoorTa
set_option linter.unusedVariables false
set_option linter.unusedSimpArgs false
namespace Go.Proofs.YtagpmpbmfjaiiaaGreatDoor
open Go.RowKit
set_option maxRecDepth 20000
set_option maxHeartbeats 8000000

def idxG (p : Int × Int → Bool) : List (Int × Int) → Nat → Int
  | [], _ => -1
  | x :: l, k => bif p x then k else idxG p l (k + 1)
theorem idxG_neg (p : Int × Int → Bool) (xs : List (Int × Int)) (k : Nat) : decide (0 ≤ idxG p xs k) = xs.any p := by
  induction xs generalizing k with
  | nil => rfl
  | cons x l ih =>
    unfold idxG
    cases h : p x
    · simp [h, ih]
    · simp [h]
theorem drop_getF {L : List (Int × Int)} {k : Nat} (h : k < L.length) : L.drop k = L.getD k f0 :: L.drop (k + 1) := by
  rw [List.getD_eq_getElem?_getD, List.getElem?_eq_getElem h, List.drop_eq_getElem_cons h]; rfl
theorem getF_mem {L : List (Int × Int)} {k : Nat} (h : k < L.length) : L.getD k f0 ∈ L := by
  rw [List.getD_eq_getElem?_getD, List.getElem?_eq_getElem h]; exact List.getElem_mem h
def okR (x : Int × Int) : Bool := inR x.1 0 10000 && inR x.2 0 10000
theorem divisor2_A (a b : Int) (ha : I64 a) (hb : 0 < b) (hb2 : b ≤ 9223372036854775807) : AC Tryz.prog 104 [I a, I b] (I (Int.gcd a b)) := by
  obtain ⟨ha1, ha2⟩ := ha
  refine ac_body Tryz.func104 rfl (by kernel_rfl) fun w0 ok => ?_; show AWp _ (ctx0 w0 ok _) _ (ARet _ _ _) (entry _)
  (repeat' (first | (with_reducible first | intro hg | refine mv (by constructor) ?_) | ((with_reducible first | refine zR ?_ ?_ | refine zW mixed ?_ ?_); exact kr) | ((with_reducible apply zK); exact rfl; exact tf) | ((with_reducible apply zCD); exact rfl) | ((with_reducible apply zCN); exact rfl) | ((with_reducible apply zC); exact rfl) | ((with_reducible refine zX ?_ ?_); exact rfl) | ((with_reducible refine zE (And.intro ?_ ?_)); exact kr) | (with_reducible refine zE ?_) | ((with_reducible apply zP); exact dp) | ((with_reducible apply zN); exact dn) | ((with_reducible apply zA); exact da) | ((with_reducible apply zS); exact ds) | ((with_reducible apply zY); exact rfl; exact rfl; exact tf) | ((with_reducible apply zG); exact rfl; exact rfl; exact tf) | ((with_reducible apply zU); exact rfl; exact rfl) | ((with_reducible apply zD); exact rfl; exact rfl) | ((with_reducible apply zB); exact rfl; exact rfl)))
  refine awp_loopL2 (fun (u v : Int) => [(0, .d (I u)), (1, .d (I v))]) (fun _ _ => []) (fun u v => ((-9223372036854775808 < u ∨ v ≠ 0) ∧ -9223372036854775808 ≤ u ∧ u ≤ 9223372036854775807) ∧ (-9223372036854775808 < v ∧ v ≤ 9223372036854775807) ∧ Int.gcd u v = Int.gcd a b) (fun _ v => v.natAbs) a b ⟨⟨.inr (by omega), ha1, ha2⟩, ⟨by omega, hb2⟩, rfl⟩ ⟨rfl, rfl, trivial⟩ trivial fun u v ⟨⟨hu0, hu1, hu2⟩, ⟨hv1, hv2⟩, hd⟩ => ?_
  by_cases hz : v = 0
  · subst hz
    (repeat' (first | (with_reducible first | intro hg | refine mv (by constructor) ?_) | ((with_reducible first | refine zR ?_ ?_ | refine zW mixed ?_ ?_); exact kr) | ((with_reducible apply zK); exact rfl; exact tf) | ((with_reducible apply zCD); exact rfl) | ((with_reducible apply zCN); exact rfl) | ((with_reducible apply zC); exact rfl) | ((with_reducible refine zX ?_ ?_); exact rfl) | ((with_reducible refine zE (And.intro ?_ ?_)); exact kr) | (with_reducible refine zE ?_) | ((with_reducible apply zP); exact dp) | ((with_reducible apply zN); exact dn) | ((with_reducible apply zA); exact da) | ((with_reducible apply zS); exact ds) | ((with_reducible apply zY); exact rfl; exact rfl; exact tf) | ((with_reducible apply zG); exact rfl; exact rfl; exact tf) | ((with_reducible apply zU); exact rfl; exact rfl) | ((with_reducible apply zD); exact rfl; exact rfl) | ((with_reducible apply zB); exact rfl; exact rfl)))
    ((with_reducible first | apply q_retR | apply q_retN); exact rl)
    exact rt_int (by rw [← hd, Int.gcd_zero_right]; omega)
  · (repeat' (first | (with_reducible first | intro hg | refine mv (by constructor) ?_) | ((with_reducible first | refine zR ?_ ?_ | refine zW mixed ?_ ?_); exact kr) | ((with_reducible apply zK); exact rfl; exact tf) | ((with_reducible apply zCD); exact rfl) | ((with_reducible apply zCN); exact rfl) | ((with_reducible apply zC); exact rfl) | ((with_reducible refine zX ?_ ?_); exact rfl) | ((with_reducible refine zE (And.intro ?_ ?_)); exact kr) | (with_reducible refine zE ?_) | ((with_reducible apply zP); exact dp) | ((with_reducible apply zN); exact dn) | ((with_reducible apply zA); exact da) | ((with_reducible apply zS); exact ds) | ((with_reducible apply zY); exact rfl; exact rfl; exact tf) | ((with_reducible apply zG); exact rfl; exact rfl; exact tf) | ((with_reducible apply zU); exact rfl; exact rfl) | ((with_reducible apply zD); exact rfl; exact rfl) | ((with_reducible apply zB); exact rfl; exact rfl)))
    have := tmod_lt u v hz
    exact ⟨v, u.tmod v, ⟨⟨.inl hv1, by omega, hv2⟩, ⟨by omega, by omega⟩, by rw [gcd_step]; exact hd⟩, this, ⟨rfl, rfl, trivial⟩, trivial⟩
theorem bgcd2_A (a b : Int) (ha : I64 a) (hb : 0 < b) (hb2 : b ≤ 9223372036854775807) : AC Tryz.prog 69 [I a, I b] (I (Int.gcd a b)) := by
  obtain ⟨ha1, ha2⟩ := ha
  refine ac_body Tryz.func69 rfl (by kernel_rfl) fun w0 ok => ?_; show AWp _ (ctx0 w0 ok _) _ (ARet _ _ _) (entry _)
  (repeat' (first | (with_reducible first | intro hg | refine mv (by constructor) ?_) | ((with_reducible first | refine zR ?_ ?_ | refine zW mixed ?_ ?_); exact kr) | ((with_reducible apply zK); exact rfl; exact tf) | ((with_reducible apply zCD); exact rfl) | ((with_reducible apply zCN); exact rfl) | ((with_reducible apply zC); exact rfl) | ((with_reducible refine zX ?_ ?_); exact rfl) | ((with_reducible refine zE (And.intro ?_ ?_)); exact kr) | (with_reducible refine zE ?_) | ((with_reducible apply zP); exact dp) | ((with_reducible apply zN); exact dn) | ((with_reducible apply zA); exact da) | ((with_reducible apply zS); exact ds) | ((with_reducible apply zY); exact rfl; exact rfl; exact tf) | ((with_reducible apply zG); exact rfl; exact rfl; exact tf) | ((with_reducible apply zU); exact rfl; exact rfl) | ((with_reducible apply zD); exact rfl; exact rfl) | ((with_reducible apply zB); exact rfl; exact rfl)))
  refine awp_loopL2 (fun (u v : Int) => [(0, .d (I u)), (1, .d (I v))]) (fun _ _ => []) (fun u v => ((-9223372036854775808 < u ∨ v ≠ 0) ∧ -9223372036854775808 ≤ u ∧ u ≤ 9223372036854775807) ∧ (-9223372036854775808 < v ∧ v ≤ 9223372036854775807) ∧ Int.gcd u v = Int.gcd a b) (fun _ v => v.natAbs) a b ⟨⟨.inr (by omega), ha1, ha2⟩, ⟨by omega, hb2⟩, rfl⟩ ⟨rfl, rfl, trivial⟩ trivial fun u v ⟨⟨hu0, hu1, hu2⟩, ⟨hv1, hv2⟩, hd⟩ => ?_
  by_cases hz : v = 0
  · subst hz
    (repeat' (first | (with_reducible first | intro hg | refine mv (by constructor) ?_) | ((with_reducible first | refine zR ?_ ?_ | refine zW mixed ?_ ?_); exact kr) | ((with_reducible apply zK); exact rfl; exact tf) | ((with_reducible apply zCD); exact rfl) | ((with_reducible apply zCN); exact rfl) | ((with_reducible apply zC); exact rfl) | ((with_reducible refine zX ?_ ?_); exact rfl) | ((with_reducible refine zE (And.intro ?_ ?_)); exact kr) | (with_reducible refine zE ?_) | ((with_reducible apply zP); (first | exact dp | exact oc rfl (bsize_A _ ⟨by omega, by omega⟩))) | ((with_reducible apply zN); exact dn) | ((with_reducible apply zA); exact da) | ((with_reducible apply zS); exact ds) | ((with_reducible apply zY); exact rfl; exact rfl; exact tf) | ((with_reducible apply zG); exact rfl; exact rfl; exact tf) | ((with_reducible apply zU); exact rfl; exact rfl) | ((with_reducible apply zD); exact rfl; exact rfl) | ((with_reducible apply zB); exact rfl; exact rfl)))
    ((with_reducible first | apply q_retR | apply q_retN); exact rl)
    exact rt_int (by rw [← hd, Int.gcd_zero_right])
  · (repeat' (first | (with_reducible first | intro hg | refine mv (by constructor) ?_) | ((with_reducible first | refine zR ?_ ?_ | refine zW mixed ?_ ?_); exact kr) | ((with_reducible apply zK); exact rfl; exact tf) | ((with_reducible apply zCD); exact rfl) | ((with_reducible apply zCN); exact rfl) | ((with_reducible apply zC); exact rfl) | ((with_reducible refine zX ?_ ?_); exact rfl) | ((with_reducible refine zE (And.intro ?_ ?_)); exact kr) | (with_reducible refine zE ?_) | ((with_reducible apply zP); exact dp) | ((with_reducible apply zN); exact dn) | ((with_reducible apply zA); exact da) | ((with_reducible apply zS); exact ds) | ((with_reducible apply zY); exact rfl; exact rfl; exact tf) | ((with_reducible apply zG); exact rfl; exact rfl; exact tf) | ((with_reducible apply zU); exact rfl; exact rfl) | ((with_reducible apply zD); exact rfl; exact rfl) | ((with_reducible apply zB); exact rfl; exact rfl)))
    have := tmod_lt u v hz
    exact ⟨v, u.tmod v, ⟨⟨.inl hv1, by omega, hv2⟩, ⟨by omega, by omega⟩, by rw [gcd_step]; exact hd⟩, this, ⟨rfl, rfl, trivial⟩, trivial⟩
/-- In lowest terms. -/
def lowP (f : Int × Int) : Bool := decide (0 < f.2) && decide ((Int.gcd f.1 f.2 : Int) = 1)
theorem bIsLowest_A (f : Int × Int) (h : FrF f) : AC Tryz.prog 32 [F2 f] (B (lowP f)) := by
  obtain ⟨h1, h2⟩ := h
  unfold lowP
  by_cases hp : 0 < f.2
  · have hg := bgcd2_A f.1 f.2 h1 hp h2.2
    rw [decide_eq_true hp]
    refine ac_body Tryz.func32 rfl (by kernel_rfl) fun w0 ok => ?_; show AWp _ (ctx0 w0 ok _) _ (ARet _ _ _) (entry _)
    (repeat' (first | (with_reducible first | intro hg | refine mv (by constructor) ?_) | ((with_reducible first | refine zR ?_ ?_ | refine zW mixed ?_ ?_); exact kr) | ((with_reducible apply zK); exact rfl; exact tf) | ((with_reducible apply zCD); exact rfl) | ((with_reducible apply zCN); exact rfl) | ((with_reducible apply zC); exact rfl) | ((with_reducible refine zX ?_ ?_); exact rfl) | ((with_reducible refine zE (And.intro ?_ ?_)); exact kr) | (with_reducible refine zE ?_) | ((with_reducible apply zP); (first | exact dp | exact oc rfl (hg))) | ((with_reducible apply zN); exact dn) | ((with_reducible apply zA); exact da) | ((with_reducible apply zS); exact ds) | ((with_reducible apply zY); exact rfl; exact rfl; exact tf) | ((with_reducible apply zG); exact rfl; exact rfl; exact tf) | ((with_reducible apply zU); exact rfl; exact rfl) | ((with_reducible apply zD); exact rfl; exact rfl) | ((with_reducible apply zB); exact rfl; exact rfl)))
    ((with_reducible first | apply q_retR | apply q_retN); exact rl)
    rfl
  · rw [decide_eq_false hp]
    refine ac_body Tryz.func32 rfl (by kernel_rfl) fun w0 ok => ?_; show AWp _ (ctx0 w0 ok _) _ (ARet _ _ _) (entry _)
    (repeat' (first | (with_reducible first | intro hg | refine mv (by constructor) ?_) | ((with_reducible first | refine zR ?_ ?_ | refine zW mixed ?_ ?_); exact kr) | ((with_reducible apply zK); exact rfl; exact tf) | ((with_reducible apply zCD); exact rfl) | ((with_reducible apply zCN); exact rfl) | ((with_reducible apply zC); exact rfl) | ((with_reducible refine zX ?_ ?_); exact rfl) | ((with_reducible refine zE (And.intro ?_ ?_)); exact kr) | (with_reducible refine zE ?_) | ((with_reducible apply zP); exact dp) | ((with_reducible apply zN); exact dn) | ((with_reducible apply zA); exact da) | ((with_reducible apply zS); exact ds) | ((with_reducible apply zY); exact rfl; exact rfl; exact tf) | ((with_reducible apply zG); exact rfl; exact rfl; exact tf) | ((with_reducible apply zU); exact rfl; exact rfl) | ((with_reducible apply zD); exact rfl; exact rfl) | ((with_reducible apply zB); exact rfl; exact rfl)))
    ((with_reducible first | apply q_retR | apply q_retN); exact rl)
    rfl
/-- The error of a change, of changes. -/
def cE (f : Int × Int) : Int := fst0 [unl (lowP f) 3, unl (smF f) 2]
def chgE : List (Int × Int) → Int
  | [] => 0
  | f :: L => bif cE f == 0 then chgE L else cE f
theorem chgE_zero {f : Int × Int} (h : cE f = 0) (L : List (Int × Int)) : chgE (f :: L) = chgE L := by
  show (bif cE f == 0 then _ else _) = _; rw [h]; rfl
theorem chgE_ne {f : Int × Int} (h : cE f ≠ 0) (L : List (Int × Int)) : chgE (f :: L) = cE f := by
  show (bif cE f == 0 then _ else _) = _
  rw [show (cE f == 0) = false from beq_eq_false_iff_ne.2 h]; rfl
theorem cE_ok {f : Int × Int} (h : cE f = 0) : lowP f = true ∧ smF f = true := by
  obtain ⟨h1, h⟩ := fst0_cons h
  obtain ⟨h2, _⟩ := fst0_cons h
  exact ⟨unl_ok (by decide) h1, unl_ok (by decide) h2⟩
theorem chgE_ok : ∀ {L : List (Int × Int)}, chgE L = 0 → ∀ f ∈ L, cE f = 0
  | [], _, f, h => by simp at h
  | x :: L, h, f, hf => by
    by_cases hx : cE x = 0
    · rw [chgE_zero hx] at h
      rcases List.mem_cons.1 hf with rfl | hf
      · exact hx
      · exact chgE_ok h f hf
    · rw [chgE_ne hx] at h; exact absurd h hx
theorem smF_bnd {f : Int × Int} (h1 : lowP f = true) (h : smF f = true) : (-1000000000 ≤ f.1 ∧ f.1 ≤ 1000000000) ∧ 0 < f.2 ∧ f.2 ≤ 1000000000 := by
  unfold smF at h
  unfold lowP at h1
  simp only [Bool.and_eq_true, decide_eq_true_eq] at h h1
  exact ⟨inR_iff.1 h.1, h1.1, h.2⟩
/-- The error of a law; of a law and of how many changes. -/
def lawE (e c : Int × Int) : Int := fst0 [unl (!([e, c].any fun x => !okR x)) 2, unl (!([e, c].any fun x => !decide (x.1 ≤ x.2))) 9]
def cntE (L : List (Int × Int)) : Int := fst0 [unl (decide ((3 : Int) ≤ L.length)) 10, unl (decide ((L.length : Int) ≤ 9)) 8]
def lwE (e c : Int × Int) (L : List (Int × Int)) : Int := fst0 [unl (!([e, c].any fun x => !okR x)) 2, unl (!([e, c].any fun x => !decide (x.1 ≤ x.2))) 9, unl (decide ((3 : Int) ≤ L.length)) 10, unl (decide ((L.length : Int) ≤ 9)) 8]
theorem lwE_eq (e c : Int × Int) (L : List (Int × Int)) : lwE e c L = bif lawE e c == 0 then cntE L else lawE e c := by
  unfold lwE lawE cntE
  cases (!([e, c].any fun x => !okR x))
  · rfl
  · cases (!([e, c].any fun x => !decide (x.1 ≤ x.2))) <;> rfl
abbrev lawV (e c : Int × Int) : DV := .agg [I e.1, I e.2, I c.1, I c.2]
/-- The answer for a change by a limit. -/
def ansF (l f : Int × Int) : Int := bif decide (l.2 * f.2 < 1000000 * f.1) then 2 else bif decide (1000000 * f.1 ≤ l.1 * f.2) then 0 else 1
theorem lim_bnd {l d : Int} (h1 : 0 ≤ l ∧ l ≤ 10000) (h2 : 0 < d ∧ d ≤ 1000000000) : 0 ≤ l * d ∧ l * d ≤ 10000000000000 := by
  have a1 : l * d ≤ l * 1000000000 := Int.mul_le_mul_of_nonneg_left h2.2 (by omega)
  have a2 := Int.mul_nonneg h1.1 (Int.le_of_lt h2.1)
  omega
instance : ZroI Tryz.prog 123 [Value.nilFunc] := ⟨by kernel_rfl⟩
/-- The limit of a position; the answers. -/
def limF (e c : Int × Int) (n i : Nat) : Int × Int := bif decide (i = 0 ∨ i + 1 = n) then e else c
def bkF (e c : Int × Int) (L : List (Int × Int)) (i : Nat) : Int := ansF (limF e c L.length i) (L.getD i f0)
end Go.Proofs.YtagpmpbmfjaiiaaGreatDoor
