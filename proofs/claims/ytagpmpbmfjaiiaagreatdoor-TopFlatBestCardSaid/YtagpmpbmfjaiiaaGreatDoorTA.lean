/- Merged: XTt XTu XTv XTw XTx XTy. -/
import Derived.Test.YtagpmpbmfjaiiaaGreatDoorPA
import Derived.Test.YtagpmpbmfjaiiaaGreatDoorTe
import Derived.Test.YtagpmpbmfjaiiaaGreatDoorPy
set_option linter.unusedVariables false
set_option linter.unusedSimpArgs false
/- Sets of positions that some settings keep: the table is closed downwards. No walk. -/
namespace Go.Proofs.YtagpmpbmfjaiiaaGreatDoor
open Go.RowKit

/-- A set of positions lies in another one. -/
def Subs (t x : Nat) : Prop := ∀ j, t.testBit j = true → x.testBit j = true
theorem Subs.refl (t : Nat) : Subs t t := fun _ h => h
theorem Subs.trans {a b c : Nat} (h1 : Subs a b) (h2 : Subs b c) : Subs a c := fun j h => h2 j (h1 j h)
theorem subs_and {t x : Nat} : x &&& t = t ↔ Subs t x := by
  constructor
  · intro h j hj
    have := congrArg (Nat.testBit · j) h
    simp only [Nat.testBit_and] at this
    rw [hj] at this
    simpa using this
  · intro h
    refine Nat.eq_of_testBit_eq fun j => ?_
    rw [Nat.testBit_and]
    cases hj : t.testBit j
    · simp
    · rw [h j hj]; rfl
theorem bitOff_bit {a i : Nat} (ha : a < 2 ^ 62) (hi : i < 62) (j : Nat) : (bitOff a (2 ^ i)).testBit j = (a.testBit j && !decide (j = i)) := by
  unfold bitOff
  rw [BitVec.testBit_toNat, BitVec.getLsbD_and, BitVec.getLsbD_not, BitVec.getLsbD_ofNat, BitVec.getLsbD_ofNat, Nat.testBit_two_pow]
  by_cases hj : j < 64
  · rw [decide_eq_true hj]
    have e : decide (i = j) = decide (j = i) := decide_eq_decide.2 ⟨Eq.symm, Eq.symm⟩
    simp [e]
  · have : a.testBit j = false := Nat.testBit_lt_two_pow (Nat.lt_of_lt_of_le ha (Nat.pow_le_pow_right (by decide) (by omega)))
    simp [hj, this]
theorem bitOff_subs {a i : Nat} (ha : a < 2 ^ 62) (hi : i < 62) : Subs (bitOff a (2 ^ i)) a := fun j h => by
  rw [bitOff_bit ha hi] at h
  exact (Bool.and_eq_true_iff.1 h).1
theorem updB_at (f : Nat → Bool) (o : Nat) (v : Bool) : updB f o v o = v := by unfold updB; rw [Nat.beq_refl]; rfl
theorem updB_ne {f : Nat → Bool} {o i : Nat} (h : i ≠ o) (v : Bool) : updB f o v i = f i := by
  unfold updB
  rw [show Nat.beq i o = false from Bool.eq_false_iff.2 fun e => h (Nat.eq_of_beq_eq_true e)]; rfl
theorem inner_mono1 (g : Nat → Bool) (s i : Nat) {t : Nat} (h : innerF g s i t = true) : innerF g s (i + 1) t = true := by
  show updB (innerF g s i) (bitOff s (2 ^ i)) (innerF g s i (bitOff s (2 ^ i)) || innerF g s i s) t = true
  by_cases e : t = bitOff s (2 ^ i)
  · subst e; rw [updB_at, h]; rfl
  · rw [updB_ne e]; exact h
theorem inner_mono (g : Nat → Bool) (s : Nat) {t i : Nat} : ∀ d, innerF g s i t = true → innerF g s (i + d) t = true
  | 0, h => h
  | d + 1, h => inner_mono1 g s (i + d) (inner_mono g s d h)
theorem inner_base (g : Nat → Bool) (s n : Nat) {t : Nat} (h : g t = true) : innerF g s n t = true := by
  have := inner_mono g s (t := t) (i := 0) n h
  rwa [Nat.zero_add] at this
theorem inner_set (g : Nat → Bool) (s : Nat) {n i : Nat} (hi : i < n) (h : g s = true) : innerF g s n (bitOff s (2 ^ i)) = true := by
  have h1 : innerF g s (i + 1) (bitOff s (2 ^ i)) = true := by
    show updB (innerF g s i) (bitOff s (2 ^ i)) (innerF g s i (bitOff s (2 ^ i)) || innerF g s i s) _ = true
    rw [updB_at, inner_base g s i h, Bool.or_true]
  have := inner_mono g s (n - (i + 1)) h1
  rwa [show i + 1 + (n - (i + 1)) = n by omega] at this
theorem inner_sound (g : Nat → Bool) (s : Nat) {t : Nat} : ∀ n, innerF g s n t = true → g t = true ∨ (g s = true ∧ ∃ i, i < n ∧ t = bitOff s (2 ^ i))
  | 0, h => .inl h
  | n + 1, h => by
    have h : updB (innerF g s n) (bitOff s (2 ^ n)) (innerF g s n (bitOff s (2 ^ n)) || innerF g s n s) t = true := h
    by_cases e : t = bitOff s (2 ^ n)
    · subst e
      rw [updB_at, Bool.or_eq_true] at h
      rcases h with h | h
      · rcases inner_sound g s n h with h | ⟨h1, i, hi, h2⟩
        · exact .inl h
        · exact .inr ⟨h1, i, by omega, h2⟩
      · rcases inner_sound g s n h with h | ⟨h1, _⟩
        · exact .inr ⟨h, n, by omega, rfl⟩
        · exact .inr ⟨h1, n, by omega, rfl⟩
    · rw [updB_ne e] at h
      rcases inner_sound g s n h with h | ⟨h1, i, hi, h2⟩
      · exact .inl h
      · exact .inr ⟨h1, i, by omega, h2⟩
/-- Some set of the table holds a set. -/
def InC (f : Nat → Bool) (t : Nat) : Prop := ∃ x, f x = true ∧ Subs t x
theorem outer_sound {f : Nat → Bool} {n e : Nat} (hn : n ≤ 61) (he : e < 2 ^ 62) {t : Nat} : ∀ k, outerF f n e k t = true → InC f t
  | 0, h => ⟨t, h, Subs.refl t⟩
  | k + 1, h => by
    rcases inner_sound _ _ n h with h | ⟨h1, i, hi, h2⟩
    · exact outer_sound hn he k h
    · obtain ⟨x, hx, hs⟩ := outer_sound hn he k h1
      exact ⟨x, hx, (h2 ▸ bitOff_subs (by omega) (by omega)).trans hs⟩
theorem outer_mono {f : Nat → Bool} {n e t k : Nat} : ∀ d, outerF f n e k t = true → outerF f n e (k + d) t = true
  | 0, h => h
  | d + 1, h => inner_base _ _ n (outer_mono d h)
theorem bit_more {t x n : Nat} (h : Subs t x) (hne : t ≠ x) (hx : x < 2 ^ n) : ∃ i, i < n ∧ x.testBit i = true ∧ t.testBit i = false := by
  refine Decidable.byContradiction fun hn => hne (Nat.eq_of_testBit_eq fun j => ?_)
  cases hj : x.testBit j
  · cases ht : t.testBit j
    · rfl
    · rw [h j ht] at hj; exact hj
  · cases ht : t.testBit j
    · refine absurd ⟨j, ?_, hj, ht⟩ hn
      refine Decidable.byContradiction fun hjn => ?_
      have := Nat.testBit_lt_two_pow (x := x) (i := j) (Nat.lt_of_lt_of_le hx (Nat.pow_le_pow_right (by decide) (by omega)))
      rw [this] at hj; exact absurd hj (by decide)
    · rfl
theorem outer_full {f : Nat → Bool} {n : Nat} (hn : n ≤ 61) (hf : ∀ x, f x = true → x < 2 ^ n) : ∀ d t, 2 ^ n - 1 - t = d → 0 < t → t < 2 ^ n → InC f t → ∀ k, 2 ^ n - 1 - t ≤ k → outerF f n (2 ^ n - 1) k t = true := by
  intro d
  induction d using Nat.strongRecOn with
  | ind d ih =>
    intro t hd ht0 ht ⟨x, hx, hs⟩ k hk
    by_cases hxt : t = x
    · subst hxt
      have := outer_mono (f := f) (n := n) (e := 2 ^ n - 1) (t := t) (k := 0) k hx
      rwa [Nat.zero_add] at this
    · obtain ⟨i, hi, hxi, hti⟩ := bit_more hs hxt (hf x hx)
      -- the set with one position more
      have hbit : ∀ j, (t ||| 2 ^ i).testBit j = (t.testBit j || decide (j = i)) := fun j => by
        rw [Nat.testBit_or, Nat.testBit_two_pow]
        congr 1
        exact decide_eq_decide.2 ⟨Eq.symm, Eq.symm⟩
      have hss : Subs (t ||| 2 ^ i) x := fun j h => by
        rw [hbit, Bool.or_eq_true, decide_eq_true_eq] at h
        rcases h with h | h
        · exact hs j h
        · subst h; exact hxi
      have hgt : t < t ||| 2 ^ i := by
        have h1 : t ≤ t ||| 2 ^ i := Nat.left_le_or
        refine Nat.lt_of_le_of_ne h1 fun e => ?_
        have h2 := hbit i
        rw [← e, hti] at h2
        simp at h2
      have hslt : t ||| 2 ^ i < 2 ^ n := by
        refine Nat.lt_of_not_le fun hge => ?_
        obtain ⟨j, hj, hj2⟩ := Nat.exists_ge_and_testBit_of_ge_two_pow hge
        have h3 := hss j hj2
        have h4 := Nat.testBit_lt_two_pow (x := x) (i := j) (Nat.lt_of_lt_of_le (hf x hx) (Nat.pow_le_pow_right (by decide) hj))
        rw [h4] at h3; exact absurd h3 (by decide)
      have h1 := ih (2 ^ n - 1 - (t ||| 2 ^ i)) (by omega) (t ||| 2 ^ i) rfl (by omega) hslt ⟨x, hx, hss⟩ (2 ^ n - 1 - (t ||| 2 ^ i)) (Nat.le_refl _)
      have e2 : bitOff (t ||| 2 ^ i) (2 ^ i) = t := by
        have hp61 : 2 ^ n ≤ 2 ^ 61 := Nat.pow_le_pow_right (by decide) hn
        refine Nat.eq_of_testBit_eq fun j => ?_
        rw [bitOff_bit (by omega) (by omega), hbit]
        by_cases hj : j = i
        · subst hj; rw [hti]; simp
        · simp [hj]
      have h2 : outerF f n (2 ^ n - 1) (2 ^ n - 1 - (t ||| 2 ^ i) + 1) t = true := by
        show innerF (outerF f n (2 ^ n - 1) (2 ^ n - 1 - (t ||| 2 ^ i))) (2 ^ n - 1 - (2 ^ n - 1 - (t ||| 2 ^ i))) n t = true
        rw [show 2 ^ n - 1 - (2 ^ n - 1 - (t ||| 2 ^ i)) = t ||| 2 ^ i by omega]
        have := inner_set (outerF f n (2 ^ n - 1) (2 ^ n - 1 - (t ||| 2 ^ i))) (t ||| 2 ^ i) hi h1
        rwa [e2] at this
      have := outer_mono (k - (2 ^ n - 1 - (t ||| 2 ^ i) + 1)) h2
      rwa [show 2 ^ n - 1 - (t ||| 2 ^ i) + 1 + (k - (2 ^ n - 1 - (t ||| 2 ^ i) + 1)) = k by omega] at this
theorem closed_iff {f : Nat → Bool} {n : Nat} (hn : n ≤ 61) (hf : ∀ x, f x = true → x < 2 ^ n) {t : Nat} (h0 : 0 < t) (ht : t < 2 ^ n) : outerF f n (2 ^ n - 1) (2 ^ n - 1) t = true ↔ InC f t :=
  ⟨outer_sound hn (by have : 2 ^ n ≤ 2 ^ 61 := Nat.pow_le_pow_right (by decide) hn; omega) _, fun h => outer_full hn hf _ t rfl h0 ht h _ (Nat.sub_le _ _)⟩

end Go.Proofs.YtagpmpbmfjaiiaaGreatDoor

/- Tolerances: the first settings and their number: walks. -/
namespace Go.Proofs.YtagpmpbmfjaiiaaGreatDoor
open Go.RowKit
set_option maxRecDepth 20000
set_option maxHeartbeats 8000000

/-- Whether settings keep a tolerance. -/
def keepB (T : List Int) (A : List Act3) (m : Int) (l : List Int) : Bool := decide (maxP T A l ≤ m)
theorem firstWithin_A (T : List Int) (A : List Act3) (L : List (List Int)) (m : Int) (h : RulOk T A) (hL : SetsOk A L) (he : rulE T A = (0, 0)) (hm : inR m 0 100000 = true) (r : DV)
    (hr1 : ∀ k, k < L.length → (∀ i, i < k → keepB T A m (L.getD i []) = false) → keepB T A m (L.getD k []) = true → r = .tuple [isl (L.getD k []), I 0]) (hr2 : (∀ i, i < L.length → keepB T A m (L.getD i []) = false) → r = .tuple [nilV, I 12]) :
    AC Tryz.prog 47 [rulV T A, I m] r := by
  have ht9 := h.t9
  have hlo : LenOk T A := ⟨by omega, by have := h.a3; omega, fun a ha => by have := (h.b a ha).2.2.2.1; omega⟩
  have hop := openTolerance_A T A m hlo
  rw [he, hm] at hop
  refine ac_body Tryz.func47 rfl (by kernel_rfl) fun w0 ok => ?_; show AWp _ (ctx0 w0 ok _) _ (ARet _ _ _) (entry _)
  (repeat' (first | (with_reducible first | intro hg | refine mv (by constructor) ?_) | ((with_reducible first | refine zR ?_ ?_ | refine zW mixed ?_ ?_); exact kr) | ((with_reducible apply zK); exact rfl; exact tf) | ((with_reducible apply zCD); exact rfl) | ((with_reducible apply zCN); exact rfl) | ((with_reducible apply zC); exact rfl) | ((with_reducible refine zX ?_ ?_); exact rfl) | ((with_reducible refine zE (And.intro ?_ ?_)); exact kr) | (with_reducible refine zE ?_) | ((with_reducible apply zP); (first | exact o_makeFuncB rfl rfl | exact dp | exact oc rfl (hop))) | ((with_reducible apply zN); exact dn) | ((with_reducible apply zA); exact da) | ((with_reducible apply zS); exact ds) | ((with_reducible apply zY); exact rfl; exact rfl; exact tf) | ((with_reducible apply zG); exact rfl; exact rfl; exact tf) | ((with_reducible apply zU); exact rfl; exact rfl) | ((with_reducible apply zD); exact rfl; exact rfl) | ((with_reducible apply zB); exact rfl; exact rfl)))
  refine awp_rangeFunc (psl := [20]) (bs := [rulV T A]) (caps := []) (fin := true) (xs := yas A L) (fun k (_ : Unit) => ⟨frL [(3, .ptr 3 0), (4, .ptr 4 0), (5, .ptr 5 0), (6, .ptr 6 0)], memL [(3, ⟨3, [I m]⟩), (4, ⟨22, [nilV]⟩), (5, ⟨33, [I 0]⟩), (6, ⟨116, rulC T A⟩)]⟩)
    (fun k _ => ∀ i, i < k → keepB T A m (L.getD i []) = false) () (EntI.eq (P := Tryz.prog) (f := 75)) (.fn rfl) (settings_A T A L hL.chain h.a0 h.acts) (fun i hi => by omega) (le_of (And.intro rfl (And.intro rfl (And.intro rfl (And.intro rfl trivial)))) (And.intro rfl (And.intro rfl (And.intro rfl (And.intro rfl trivial))))) (by decide) (fun d hd => by obtain ⟨l, _, rfl⟩ := List.mem_map.1 hd; rfl) (fun k y d hI hd W ok' rd ex gv => ?_) (by simp) (fun _ y hI => ?_)
  · obtain ⟨hk, rfl⟩ := yas_at hd
    have hmem : L.getD k [] ∈ L := by rw [List.getD_eq_getElem?_getD, List.getElem?_eq_getElem hk]; exact List.getElem_mem hk
    have hso := hL.ok _ hmem
    have hr1 := hr1 k hk hI
    have hI2 : keepB T A m (L.getD k []) = false → ∀ i, i < k + 1 → keepB T A m (L.getD i []) = false := fun h0 i hi => by
      by_cases e : i = k
      · rw [e]; exact h0
      · exact hI i (by omega)
    generalize L.getD k [] = N at *
    have hmx := maximum_A T A N h hso
    have hmb := maxTo_bnd h hso T.length (Nat.le_refl _)
    have hNl := hso.1
    have ha0 := h.a0
    have ha3 := h.a3
    have hcl := clone_A N (by omega) (fun e => by rw [e] at hNl; simp at hNl; omega)
    rw [hNl] at hcl
    rw [show (isl N : DV) = .slice A.length (ivs N) by rw [← hNl]] at hmx hcl
    refine awp_cut [(20, .lsl YN 0 A.length 1), (1999999, .lsl YN 0 A.length 1), (3, .ptr 3 0), (4, .ptr 4 0), (5, .ptr 5 0), (6, .ptr 6 0), (1000003, .ptr 3 0), (1000004, .ptr 4 0), (1000005, .ptr 5 0), (1000006, .ptr 6 0)] [(3, ⟨3, [I m]⟩), (4, ⟨22, [nilV]⟩), (5, ⟨33, [I 0]⟩), (6, ⟨116, rulC T A⟩), (YN, ⟨3, ivs N⟩)] (And.intro rfl (And.intro rfl (And.intro rfl (And.intro rfl (And.intro rfl (And.intro rfl (And.intro rfl (And.intro rfl (And.intro rfl (And.intro rfl trivial)))))))))) (And.intro rfl (And.intro rfl (And.intro rfl (And.intro rfl (And.intro rfl trivial))))) ?_
    have hv : ((ivs N).drop 0).take (A.length * 1) = ivs N := by rw [List.drop_zero, List.take_of_length_le (by simp [ivs]; omega)]
    replace hmx : AC Tryz.prog 76 [rulV T A, .slice A.length (((ivs N).drop 0).take (A.length * 1))] (I (maxP T A N)) := by rw [hv]; exact hmx
    replace hcl : ACo Tryz.prog 77 [.slice A.length (((ivs N).drop 0).take (A.length * 1))] 3 A.length 1 (ivs N) := by rw [hv]; exact hcl
    have hNe : N ≠ [] := fun e => by rw [e] at hNl; simp at hNl; omega
    (repeat' (first | (with_reducible first | intro hg | refine mv (by constructor) ?_) | ((with_reducible first | refine zR ?_ ?_ | refine zW mixed ?_ ?_); exact kr) | ((with_reducible apply zK); exact rfl; exact tf) | ((with_reducible apply zCD); exact rfl) | ((with_reducible apply zCN); exact rfl) | ((with_reducible apply zC); exact rfl) | ((with_reducible refine zX ?_ ?_); exact rfl) | ((with_reducible refine zE (And.intro ?_ ?_)); exact kr) | (with_reducible refine zE ?_) | ((with_reducible apply zP); exact dp) | ((with_reducible apply zN); exact dn) | ((with_reducible apply zA); exact da) | ((with_reducible apply zS); exact ds) | ((with_reducible apply zY); exact rfl; exact rfl; exact tf) | ((with_reducible apply zG); exact rfl; exact rfl; exact tf) | ((with_reducible apply zU); exact rfl; exact rfl) | ((with_reducible apply zD); exact rfl; exact rfl) | ((with_reducible apply zB); exact rfl; exact rfl)))
    refine ⟨rfl, fun W' => ?_⟩
    by_cases hlt : maxP T A N ≤ m
    · have hr4 : r = .tuple [.slice A.length (ivs N), I 0] := by
        rw [hr1 (decide_eq_true hlt)]
        show DV.tuple [DV.slice N.length (ivs N), I 0] = _
        rw [hNl]
      (repeat' (first | (with_reducible first | intro hg | refine mv (by constructor) ?_) | ((with_reducible first | refine zR ?_ ?_ | refine zW mixed ?_ ?_); exact kr) | ((with_reducible apply zK); exact rfl; exact tf) | ((with_reducible apply zCD); exact rfl) | ((with_reducible apply zCN); exact rfl) | ((with_reducible apply zC); exact rfl) | ((with_reducible refine zX ?_ ?_); exact rfl) | ((with_reducible refine zE (And.intro ?_ ?_)); exact kr) | (with_reducible refine zE ?_) | ((with_reducible apply zP); (first | exact o_callF1 rfl hcl (ivs_flat N) | exact dp | exact oc rfl (hmx))) | ((with_reducible apply zN); exact dn) | ((with_reducible apply zA); exact da) | ((with_reducible apply zS); exact ds) | ((with_reducible apply zY); exact rfl; exact rfl; exact tf) | ((with_reducible apply zG); exact rfl; exact rfl; exact tf) | ((with_reducible apply zU); exact rfl; exact rfl) | ((with_reducible apply zD); exact rfl; exact rfl) | ((with_reducible apply zB); exact rfl; exact rfl)))
      refine ⟨⟨rfl, rfl⟩, ?_⟩
      show ARet _ _ _ .ret (uns _)
      ((with_reducible first | apply q_retR | apply q_retN); exact rl)
      exact hr4
    · have hn := hI2 (decide_eq_false hlt)
      (repeat' (first | (with_reducible first | intro hg | refine mv (by constructor) ?_) | ((with_reducible first | refine zR ?_ ?_ | refine zW mixed ?_ ?_); exact kr) | ((with_reducible apply zK); exact rfl; exact tf) | ((with_reducible apply zCD); exact rfl) | ((with_reducible apply zCN); exact rfl) | ((with_reducible apply zC); exact rfl) | ((with_reducible refine zX ?_ ?_); exact rfl) | ((with_reducible refine zE (And.intro ?_ ?_)); exact kr) | (with_reducible refine zE ?_) | ((with_reducible apply zP); (first | exact o_callF1 rfl hcl (ivs_flat N) | exact dp | exact oc rfl (hmx))) | ((with_reducible apply zN); exact dn) | ((with_reducible apply zA); exact da) | ((with_reducible apply zS); exact ds) | ((with_reducible apply zY); exact rfl; exact rfl; exact tf) | ((with_reducible apply zG); exact rfl; exact rfl; exact tf) | ((with_reducible apply zU); exact rfl; exact rfl) | ((with_reducible apply zD); exact rfl; exact rfl) | ((with_reducible apply zB); exact rfl; exact rfl)))
      exact ⟨⟨rfl, rfl⟩, (), hn, le_of (And.intro rfl (And.intro rfl (And.intro rfl (And.intro rfl trivial)))) (And.intro rfl (And.intro rfl (And.intro rfl (And.intro rfl trivial))))⟩
  · have hyl : (yas A L).length = L.length := by simp [yas]
    rw [hyl] at hI
    have hr3 := hr2 hI
    (repeat' (first | (with_reducible first | intro hg | refine mv (by constructor) ?_) | ((with_reducible first | refine zR ?_ ?_ | refine zW mixed ?_ ?_); exact kr) | ((with_reducible apply zK); exact rfl; exact tf) | ((with_reducible apply zCD); exact rfl) | ((with_reducible apply zCN); exact rfl) | ((with_reducible apply zC); exact rfl) | ((with_reducible refine zX ?_ ?_); exact rfl) | ((with_reducible refine zE (And.intro ?_ ?_)); exact kr) | (with_reducible refine zE ?_) | ((with_reducible apply zP); exact dp) | ((with_reducible apply zN); exact dn) | ((with_reducible apply zA); exact da) | ((with_reducible apply zS); exact ds) | ((with_reducible apply zY); exact rfl; exact rfl; exact tf) | ((with_reducible apply zG); exact rfl; exact rfl; exact tf) | ((with_reducible apply zU); exact rfl; exact rfl) | ((with_reducible apply zD); exact rfl; exact rfl) | ((with_reducible apply zB); exact rfl; exact rfl)))
    ((with_reducible first | apply q_retR | apply q_retN); exact rl)
    exact hr3
end Go.Proofs.YtagpmpbmfjaiiaaGreatDoor

/- Tolerances: the reference: walks. -/
namespace Go.Proofs.YtagpmpbmfjaiiaaGreatDoor
open Go.RowKit
set_option maxRecDepth 20000
set_option maxHeartbeats 8000000

theorem maxTo_le {T : List Int} {A : List Act3} {xs : List Int} {m : Int} (hm : 0 ≤ m) : ∀ n, maxTo T A xs n ≤ m ↔ ∀ i, i < n → ((devP T A xs i).natAbs : Int) ≤ m
  | 0 => ⟨fun _ i hi => by omega, fun _ => hm⟩
  | n + 1 => by
    have h := maxTo_le (T := T) (A := A) (xs := xs) hm n
    have e : maxTo T A xs (n + 1) = max (maxTo T A xs n) ((devP T A xs n).natAbs : Int) := rfl
    rw [e]
    constructor
    · intro h1 i hi
      by_cases hin : i = n
      · subst hin; omega
      · exact h.1 (by omega) i (by omega)
    · intro h1
      have h2 := h.2 fun i hi => h1 i (by omega)
      have h3 := h1 n (by omega)
      omega
theorem allS_len {T : List Int} {A : List Act3} (h : RulOk T A) : (allS A).length ≤ 9261 := by
  have h1 := allTo_len h A.length (Nat.le_refl _)
  rw [allTo_all] at h1
  have h2 : 21 ^ A.length ≤ 21 ^ 3 := Nat.pow_le_pow_right (by decide) h.a3
  exact Nat.le_trans h1 h2
end Go.Proofs.YtagpmpbmfjaiiaaGreatDoor

/- Tolerances: the reference of contradictions: walks. -/
namespace Go.Proofs.YtagpmpbmfjaiiaaGreatDoor
open Go.RowKit
set_option maxRecDepth 20000
set_option maxHeartbeats 8000000

theorem before_A (xs ys : List Int) (hl : xs.length = ys.length) (hm : xs.length ≤ 1000) : AC Tryz.prog 45 [isl xs, isl ys] (B (decide (cmpL xs ys < 0))) := by
  refine ac_body Tryz.func45 rfl (by kernel_rfl) fun w0 ok => ?_; show AWp _ (ctx0 w0 ok _) _ (ARet _ _ _) (entry _)
  (repeat' (first | (with_reducible first | intro hg | refine mv (by constructor) ?_) | ((with_reducible first | refine zR ?_ ?_ | refine zW mixed ?_ ?_); exact kr) | ((with_reducible apply zK); exact rfl; exact tf) | ((with_reducible apply zCD); exact rfl) | ((with_reducible apply zCN); exact rfl) | ((with_reducible apply zC); exact rfl) | ((with_reducible refine zX ?_ ?_); exact rfl) | ((with_reducible refine zE (And.intro ?_ ?_)); exact kr) | (with_reducible refine zE ?_) | ((with_reducible apply zP); exact dp) | ((with_reducible apply zN); exact dn) | ((with_reducible apply zA); exact da) | ((with_reducible apply zS); exact ds) | ((with_reducible apply zY); exact rfl; exact rfl; exact tf) | ((with_reducible apply zG); exact rfl; exact rfl; exact tf) | ((with_reducible apply zU); exact rfl; exact rfl) | ((with_reducible apply zD); exact rfl; exact rfl) | ((with_reducible apply zB); exact rfl; exact rfl)))
  refine awp_loopL (α := Nat) (fun k => [(0, .d (isl xs)), (1, .d (isl ys)), (5, .d (I k))]) (fun _ => []) (fun k => k ≤ xs.length ∧ cmpL (xs.drop k) (ys.drop k) = cmpL xs ys) (fun k => xs.length - k) 0 ⟨Nat.zero_le _, rfl⟩ (And.intro rfl (And.intro rfl (And.intro rfl trivial))) trivial fun k ⟨hk, hd⟩ => ?_
  by_cases hlt : k < xs.length
  · have hlt2 : k < ys.length := by omega
    rw [drop_getD hlt, drop_getD hlt2] at hd
    have hd : (bif cmpI (nth xs k) (nth ys k) == 0 then cmpL (xs.drop (k + 1)) (ys.drop (k + 1)) else cmpI (nth xs k) (nth ys k)) = cmpL xs ys := hd
    by_cases hz : nth xs k = nth ys k
    · have hc : cmpI (nth xs k) (nth ys k) = 0 := by unfold cmpI; rw [decide_eq_false (by omega), decide_eq_false (by omega)]; rfl
      rw [hc] at hd
      (repeat' (first | (with_reducible first | intro hg | refine mv (by constructor) ?_) | ((with_reducible first | refine zR ?_ ?_ | refine zW mixed ?_ ?_); exact kr) | ((with_reducible apply zK); exact rfl; exact tf) | ((with_reducible apply zCD); exact rfl) | ((with_reducible apply zCN); exact rfl) | ((with_reducible apply zC); exact rfl) | ((with_reducible refine zX ?_ ?_); exact rfl) | ((with_reducible refine zE (And.intro ?_ ?_)); exact kr) | (with_reducible refine zE ?_) | ((with_reducible apply zP); (first | exact o_indexI (j := k) (xs := xs) rfl rfl (by omega) rfl | exact o_indexI (j := k) (xs := ys) rfl rfl (by omega) rfl | exact dp)) | ((with_reducible apply zN); exact dn) | ((with_reducible apply zA); exact da) | ((with_reducible apply zS); exact ds) | ((with_reducible apply zY); exact rfl; exact rfl; exact tf) | ((with_reducible apply zG); exact rfl; exact rfl; exact tf) | ((with_reducible apply zU); exact rfl; exact rfl) | ((with_reducible apply zD); exact rfl; exact rfl) | ((with_reducible apply zB); exact rfl; exact rfl)))
      exact ⟨k + 1, ⟨hlt, hd⟩, by omega, (And.intro rfl (And.intro rfl (And.intro rfl trivial))), trivial⟩
    · have hc : decide (nth xs k < nth ys k) = decide (cmpL xs ys < 0) := by
        rw [← hd]
        unfold cmpI
        by_cases h1 : nth xs k < nth ys k
        · rw [decide_eq_true h1]; rfl
        · rw [decide_eq_false h1, decide_eq_true (show nth ys k < nth xs k by omega)]; rfl
      rw [← hc]
      (repeat' (first | (with_reducible first | intro hg | refine mv (by constructor) ?_) | ((with_reducible first | refine zR ?_ ?_ | refine zW mixed ?_ ?_); exact kr) | ((with_reducible apply zK); exact rfl; exact tf) | ((with_reducible apply zCD); exact rfl) | ((with_reducible apply zCN); exact rfl) | ((with_reducible apply zC); exact rfl) | ((with_reducible refine zX ?_ ?_); exact rfl) | ((with_reducible refine zE (And.intro ?_ ?_)); exact kr) | (with_reducible refine zE ?_) | ((with_reducible apply zP); (first | exact o_indexI (j := k) (xs := xs) rfl rfl (by omega) rfl | exact o_indexI (j := k) (xs := ys) rfl rfl (by omega) rfl | exact dp)) | ((with_reducible apply zN); exact dn) | ((with_reducible apply zA); exact da) | ((with_reducible apply zS); exact ds) | ((with_reducible apply zY); exact rfl; exact rfl; exact tf) | ((with_reducible apply zG); exact rfl; exact rfl; exact tf) | ((with_reducible apply zU); exact rfl; exact rfl) | ((with_reducible apply zD); exact rfl; exact rfl) | ((with_reducible apply zB); exact rfl; exact rfl)))
      ((with_reducible first | apply q_retR | apply q_retN); exact rl)
      rfl
  · have hc : decide ((xs.length : Int) < (ys.length : Int)) = decide (cmpL xs ys < 0) := by
      rw [← hd, List.drop_of_length_le (by omega), decide_eq_false (by omega)]; rfl
    rw [← hc]
    (repeat' (first | (with_reducible first | intro hg | refine mv (by constructor) ?_) | ((with_reducible first | refine zR ?_ ?_ | refine zW mixed ?_ ?_); exact kr) | ((with_reducible apply zK); exact rfl; exact tf) | ((with_reducible apply zCD); exact rfl) | ((with_reducible apply zCN); exact rfl) | ((with_reducible apply zC); exact rfl) | ((with_reducible refine zX ?_ ?_); exact rfl) | ((with_reducible refine zE (And.intro ?_ ?_)); exact kr) | (with_reducible refine zE ?_) | ((with_reducible apply zP); exact dp) | ((with_reducible apply zN); exact dn) | ((with_reducible apply zA); exact da) | ((with_reducible apply zS); exact ds) | ((with_reducible apply zY); exact rfl; exact rfl; exact tf) | ((with_reducible apply zG); exact rfl; exact rfl; exact tf) | ((with_reducible apply zU); exact rfl; exact rfl) | ((with_reducible apply zD); exact rfl; exact rfl) | ((with_reducible apply zB); exact rfl; exact rfl)))
    ((with_reducible first | apply q_retR | apply q_retN); exact rl)
    rfl
/-- Whether one of the first sets of a table holds a set. -/
def anyTo (f : Nat → Bool) (s : Nat) : Nat → Bool
  | 0 => false
  | k + 1 => anyTo f s k || (f k && decide (((k &&& s : Nat) : Int) = (s : Int)))
theorem anyTo_iff (f : Nat → Bool) (s : Nat) : ∀ k, anyTo f s k = true ↔ ∃ x, x < k ∧ f x = true ∧ Subs s x
  | 0 => by simp [anyTo]
  | k + 1 => by
    show (anyTo f s k || (f k && decide (((k &&& s : Nat) : Int) = (s : Int)))) = true ↔ _
    rw [Bool.or_eq_true, Bool.and_eq_true, decide_eq_true_eq, anyTo_iff f s k]
    constructor
    · rintro (⟨x, h1, h2⟩ | ⟨h1, h2⟩)
      · exact ⟨x, by omega, h2⟩
      · exact ⟨k, by omega, h1, subs_and.1 (by omega)⟩
    · rintro ⟨x, h1, h2, h3⟩
      by_cases e : x = k
      · subst e; exact .inr ⟨h2, congrArg Int.ofNat (subs_and.2 h3)⟩
      · exact .inl ⟨x, by omega, h2, h3⟩
theorem posTo_more {s n : Nat} (h : s < 2 ^ n) : ∀ d, posTo s (n + d) = posTo s n
  | 0 => rfl
  | d + 1 => by
    have h1 : s / 2 ^ (n + d) = 0 := Nat.div_eq_of_lt (Nat.lt_of_lt_of_le h (Nat.pow_le_pow_right (by decide) (by omega)))
    show (bif decide ((((s / 2 ^ (n + d)) &&& 1 : Nat) : Int) = 1) then posTo s (n + d) ++ [((n + d : Nat) : Int)] else posTo s (n + d)) = _
    rw [h1]
    exact posTo_more h d
/-- The sets that the reference finds. -/
def refP (T : List Int) (A : List Act3) (m : Int) (L : List (List Int)) : Option (List Int) := pickTo (fun s => anyTo (tog T A m L L.length) s (2 ^ T.length)) (2 ^ T.length - 1)
theorem pickTo_congr {f g : Nat → Bool} : ∀ k, (∀ s, 0 < s → s ≤ k → f s = g s) → pickTo f k = pickTo g k
  | 0, _ => rfl
  | k + 1, h => by
    show pickS f (pickTo f k) (k + 1) = pickS g (pickTo g k) (k + 1)
    rw [pickTo_congr k fun s h1 h2 => h s h1 (by omega)]
    unfold pickS
    rw [h (k + 1) (by omega) (Nat.le_refl _)]
theorem tog_lt {T : List Int} {A : List Act3} {m : Int} {L : List (List Int)} : ∀ k, k ≤ L.length → ∀ x, tog T A m L k x = true → x < 2 ^ T.length
  | 0, _, x, h => by
    have h : false = true := h
    exact absurd h (by decide)
  | k + 1, hk, x, h => by
    rw [tog_succ (N := L.getD k []) (by omega) rfl] at h
    by_cases e : x = keptTo T A (L.getD k []) m T.length
    · rw [e]; exact keptTo_lt _
    · rw [updB_ne e] at h
      exact tog_lt k (by omega) x h
theorem refP_eq {T : List Int} {A : List Act3} {m : Int} {L : List (List Int)} (ht : T.length ≤ 9) : refP T A m L = contP T A m L := by
  refine pickTo_congr _ fun s h0 hs => ?_
  have hp : 0 < 2 ^ T.length := Nat.pow_pos (by decide)
  rw [Bool.eq_iff_iff, anyTo_iff]
  show _ ↔ outerF (tog T A m L L.length) T.length (2 ^ T.length - 1) (2 ^ T.length - 1) s = true
  rw [closed_iff (by omega) (tog_lt L.length (Nat.le_refl _)) h0 (by omega)]
  constructor
  · rintro ⟨x, _, h1, h2⟩; exact ⟨x, h1, h2⟩
  · rintro ⟨x, h1, h2⟩; exact ⟨x, tog_lt L.length (Nat.le_refl _) x h1, h1, h2⟩

end Go.Proofs.YtagpmpbmfjaiiaaGreatDoor

/- Tolerances: the reference of contradictions: the walk. -/
namespace Go.Proofs.YtagpmpbmfjaiiaaGreatDoor
open Go.RowKit
set_option maxRecDepth 20000
set_option maxHeartbeats 8000000

end Go.Proofs.YtagpmpbmfjaiiaaGreatDoor

/- The law FlatTolerances: plain part, errors. -/
namespace Go.Proofs.YtagpmpbmfjaiiaaGreatDoor
open Go.RowKit
set_option maxRecDepth 20000
set_option maxHeartbeats 8000000

theorem keptTo_bit {T : List Int} {A : List Act3} {xs : List Int} {m : Int} : ∀ n i, (keptTo T A xs m n).testBit i = (decide (i < n) && decide (((devP T A xs i).natAbs : Int) ≤ m))
  | 0, i => by
    show Nat.testBit 0 i = _
    rw [Nat.zero_testBit]; simp
  | n + 1, i => by
    have ih := keptTo_bit (T := T) (A := A) (xs := xs) (m := m) n
    show (bif decide (((devP T A xs n).natAbs : Int) ≤ m) then keptTo T A xs m n ||| 2 ^ n else keptTo T A xs m n).testBit i = _
    by_cases hd : ((devP T A xs n).natAbs : Int) ≤ m
    · rw [decide_eq_true hd]
      show (keptTo T A xs m n ||| 2 ^ n).testBit i = _
      rw [Nat.testBit_or, ih, Nat.testBit_two_pow]
      by_cases hi : n = i
      · subst hi; rw [decide_eq_true hd]; simp
      · rw [decide_eq_false hi, Bool.or_false]
        congr 1
        exact decide_eq_decide.2 (by omega)
    · rw [decide_eq_false hd]
      show (keptTo T A xs m n).testBit i = _
      rw [ih]
      by_cases hi : n = i
      · subst hi; rw [decide_eq_false hd]; simp
      · congr 1
        exact decide_eq_decide.2 (by omega)
theorem tog_iff {T : List Int} {A : List Act3} {m : Int} {L : List (List Int)} : ∀ k, k ≤ L.length → ∀ x, tog T A m L k x = true ↔ ∃ i, i < k ∧ x = keptTo T A (L.getD i []) m T.length
  | 0, _, x => ⟨fun h => absurd (show false = true from h) (by decide), fun ⟨i, hi, _⟩ => by omega⟩
  | k + 1, hk, x => by
    rw [tog_succ (N := L.getD k []) (by omega) rfl]
    by_cases e : x = keptTo T A (L.getD k []) m T.length
    · rw [← e, updB_at]
      exact ⟨fun _ => ⟨k, by omega, e⟩, fun _ => rfl⟩
    · rw [updB_ne e, tog_iff k (by omega) x]
      constructor
      · rintro ⟨i, hi, h⟩; exact ⟨i, by omega, h⟩
      · rintro ⟨i, hi, h⟩
        by_cases hik : i = k
        · subst hik; exact absurd h e
        · exact ⟨i, by omega, h⟩
theorem pickS_some (f : Nat → Bool) (y : Option (List Int)) (s : Nat) (h : y.isSome = true ∨ f s = false) : (pickS f y s).isSome = true := by
  unfold pickS
  cases hf : f s
  · cases y with
    | none => rfl
    | some b =>
      show (bif better (posTo s 9) b then some (posTo s 9) else some b).isSome = true
      cases better (posTo s 9) b <;> rfl
  · rcases h with h | h
    · exact h
    · rw [hf] at h; exact absurd h (by decide)
theorem pickTo_some {f : Nat → Bool} : ∀ k s, 0 < s → s ≤ k → f s = false → (pickTo f k).isSome = true
  | 0, s, h1, h2, _ => by omega
  | k + 1, s, h1, h2, h => by
    show (pickS f (pickTo f k) (k + 1)).isSome = true
    by_cases e : s = k + 1
    · subst e; exact pickS_some _ _ _ (.inr h)
    · exact pickS_some _ _ _ (.inl (pickTo_some k s h1 (by omega) h))
theorem contP_some {T : List Int} {A : List Act3} {m : Int} {L : List (List Int)} (ht : T.length ≤ 9) (ht0 : 0 < T.length) (hm : 0 ≤ m) (h : ∀ k, k < L.length → keepB T A m (L.getD k []) = false) : (contP T A m L).isSome = true := by
  have hp : 2 ^ 1 ≤ 2 ^ T.length := Nat.pow_le_pow_right (by decide) ht0
  have hp : 2 ≤ 2 ^ T.length := hp
  refine pickTo_some _ (2 ^ T.length - 1) (by omega) (Nat.le_refl _) ?_
  refine Bool.eq_false_iff.2 fun hc => ?_
  obtain ⟨x, hx, hs⟩ := (closed_iff (by omega) (tog_lt L.length (Nat.le_refl _)) (by omega) (by omega)).1 hc
  obtain ⟨i, hi, rfl⟩ := (tog_iff L.length (Nat.le_refl _) _).1 hx
  have hk : keepB T A m (L.getD i []) = true := decide_eq_true ((maxTo_le hm T.length).2 fun j hj => by
    have h1 := hs j (by rw [Nat.testBit_two_pow_sub_one]; exact decide_eq_true hj)
    rw [keptTo_bit, Bool.and_eq_true, decide_eq_true_eq, decide_eq_true_eq] at h1
    exact h1.2)
  rw [h i hi] at hk
  exact absurd hk (by decide)
end Go.Proofs.YtagpmpbmfjaiiaaGreatDoor
