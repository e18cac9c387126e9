/- Merged: XVa XVb XVc. -/
import Derived.Test.YtgjhikjnlcbmkaaM9
import Derived.Test.YtgjhikjnlcbmkaaPa
import Derived.Test.YtgjhikjnlcbmkaaPb
set_option linter.unusedVariables false
set_option linter.unusedSimpArgs false
/- Digits to the base 10^9. Nothing of the program. -/
namespace Go.Proofs.Ytgjhikjnlcbmkaa

def wval : List Int → Int
  | [] => 0
  | d :: l => d + (1000000000 : Int) * wval l
def WDg (l : List Int) : Prop := ∀ d ∈ l, 0 ≤ d ∧ d < (1000000000 : Int)
theorem WDg.nil : WDg [] := fun d h => by simp at h
theorem WDg.cons {d : Int} {l : List Int} (h1 : 0 ≤ d ∧ d < (1000000000 : Int)) (h2 : WDg l) : WDg (d :: l) := fun x hx => by
  rcases List.mem_cons.1 hx with rfl | hx
  · exact h1
  · exact h2 x hx
theorem WDg.hd {d : Int} {l : List Int} (h : WDg (d :: l)) : 0 ≤ d ∧ d < (1000000000 : Int) := h d List.mem_cons_self
theorem WDg.tl {d : Int} {l : List Int} (h : WDg (d :: l)) : WDg l := fun x hx => h x (List.mem_cons_of_mem _ hx)
theorem WDg.app {a b : List Int} (h1 : WDg a) (h2 : WDg b) : WDg (a ++ b) := fun x hx => (List.mem_append.1 hx).elim (h1 x) (h2 x)
theorem WDg.take {l : List Int} (h : WDg l) (n : Nat) : WDg (l.take n) := fun x hx => h x (List.mem_of_mem_take hx)
theorem WDg.drop {l : List Int} (h : WDg l) (n : Nat) : WDg (l.drop n) := fun x hx => h x (List.mem_of_mem_drop hx)
theorem WDg.nth {l : List Int} (h : WDg l) (k : Nat) : 0 ≤ nth l k ∧ nth l k < (1000000000 : Int) := by
  unfold Go.Proofs.Ytgjhikjnlcbmkaa.nth
  by_cases hk : k < l.length
  · rw [List.getD_eq_getElem?_getD, List.getElem?_eq_getElem hk]; exact h _ (List.getElem_mem hk)
  · rw [List.getD_eq_getElem?_getD, List.getElem?_eq_none (by omega)]; decide
theorem wpow_pos (n : Nat) : 0 < (1000000000 : Int) ^ n := Int.pow_pos (by decide)
theorem wpow_succ (n : Nat) : (1000000000 : Int) ^ (n + 1) = (1000000000 : Int) * (1000000000 : Int) ^ n := by rw [Int.pow_succ, Int.mul_comm]
theorem wval_app : ∀ (a b : List Int), wval (a ++ b) = wval a + (1000000000 : Int) ^ a.length * wval b
  | [], b => by show wval b = 0 + (1000000000 : Int) ^ 0 * wval b; simp
  | d :: a, b => by
    show d + (1000000000 : Int) * wval (a ++ b) = d + (1000000000 : Int) * wval a + (1000000000 : Int) ^ (a.length + 1) * wval b
    rw [wval_app a b, wpow_succ, Int.mul_add, Int.mul_assoc, Int.add_assoc]
theorem wval_snoc (a : List Int) (d : Int) : wval (a ++ [d]) = wval a + (1000000000 : Int) ^ a.length * d := by
  rw [wval_app]; show _ + _ * (d + (1000000000 : Int) * 0) = _; simp
theorem wval_nn : ∀ {l : List Int}, WDg l → 0 ≤ wval l
  | [], _ => Int.le_refl _
  | d :: l, h => by
    have h1 := wval_nn h.tl
    have h2 := h.hd
    show 0 ≤ d + (1000000000 : Int) * wval l
    omega
theorem wval_lt : ∀ {l : List Int}, WDg l → wval l < (1000000000 : Int) ^ l.length
  | [], _ => by show (0 : Int) < (1000000000 : Int) ^ 0; simp
  | d :: l, h => by
    have h1 := wval_lt h.tl
    have h2 := h.hd
    show d + (1000000000 : Int) * wval l < (1000000000 : Int) ^ (l.length + 1)
    rw [wpow_succ]
    omega
theorem wval_take_drop (l : List Int) (k : Nat) (hk : k ≤ l.length) : wval l = wval (l.take k) + (1000000000 : Int) ^ k * wval (l.drop k) := by
  have h := wval_app (l.take k) (l.drop k)
  rwa [List.take_append_drop, List.length_take, Nat.min_eq_left hk] at h
theorem wval_zeros : ∀ {l : List Int}, (∀ d ∈ l, d = 0) → wval l = 0
  | [], _ => rfl
  | d :: l, h => by
    show d + (1000000000 : Int) * wval l = 0
    rw [wval_zeros fun x hx => h x (List.mem_cons_of_mem _ hx), h d List.mem_cons_self]; rfl
def dg (n : Nat) : List Int := if h : n = 0 then [] else ((n % 1000000000 : Nat) : Int) :: dg (n / 1000000000)
termination_by n
decreasing_by exact Nat.div_lt_self (Nat.pos_of_ne_zero h) (by decide)
theorem dg_zero : dg 0 = [] := by rw [dg]; rfl
theorem dg_pos {n : Nat} (h : n ≠ 0) : dg n = ((n % 1000000000 : Nat) : Int) :: dg (n / 1000000000) := by rw [dg, dif_neg h]
theorem dg_ind {P : Nat → Prop} (h0 : P 0) (hs : ∀ n, n ≠ 0 → P (n / 1000000000) → P n) (n : Nat) : P n := by
  induction n using Nat.strongRecOn with
  | ind n ih =>
    by_cases h : n = 0
    · subst h; exact h0
    · exact hs n h (ih _ (Nat.div_lt_self (Nat.pos_of_ne_zero h) (by decide)))
theorem dg_val (n : Nat) : wval (dg n) = n := by
  refine dg_ind (P := fun n => wval (dg n) = n) (by rw [dg_zero]; rfl) (fun n h ih => ?_) n
  rw [dg_pos h]
  show ((n % 1000000000 : Nat) : Int) + (1000000000 : Int) * wval (dg (n / 1000000000)) = n
  rw [ih]
  have := Nat.mod_add_div n 1000000000
  omega
theorem dg_WDg (n : Nat) : WDg (dg n) := by
  refine dg_ind (P := fun n => WDg (dg n)) (by rw [dg_zero]; exact .nil) (fun n h ih => ?_) n
  rw [dg_pos h]
  exact .cons ⟨by omega, by show _ < (1000000000 : Int); omega⟩ ih
theorem dg_ne {n : Nat} (h : n ≠ 0) : dg n ≠ [] := by rw [dg_pos h]; simp
theorem dg_nil {n : Nat} : dg n = [] ↔ n = 0 := ⟨fun h => Decidable.byContradiction fun h2 => dg_ne h2 h, fun h => by rw [h, dg_zero]⟩
theorem dg_len0 {n : Nat} : (dg n).length = 0 ↔ n = 0 := by rw [List.length_eq_zero_iff, dg_nil]
theorem dg_last (n : Nat) : n ≠ 0 → nth (dg n) ((dg n).length - 1) ≠ 0 := by
  refine dg_ind (P := fun n => n ≠ 0 → nth (dg n) ((dg n).length - 1) ≠ 0) (fun h => absurd rfl h) (fun n h ih _ => ?_) n
  rw [dg_pos h]
  by_cases h2 : n / 1000000000 = 0
  · rw [h2, dg_zero]
    show ((n % 1000000000 : Nat) : Int) ≠ 0
    omega
  · have h3 := ih h2
    have h4 : (dg (n / 1000000000)).length ≠ 0 := fun e => h2 (dg_len0.1 e)
    rw [List.length_cons]
    have e : (dg (n / 1000000000)).length + 1 - 1 = ((dg (n / 1000000000)).length - 1) + 1 := by omega
    rw [e]
    exact h3
theorem wval_pos_last : ∀ {l : List Int}, WDg l → l ≠ [] → nth l (l.length - 1) ≠ 0 → 0 < wval l
  | [], _, h, _ => absurd rfl h
  | [d], h, _, h2 => by
    have := h.hd
    have h2 : d ≠ 0 := h2
    show 0 < d + (1000000000 : Int) * 0
    omega
  | d :: e :: l, h, _, h2 => by
    have h3 := wval_pos_last h.tl (by simp) h2
    have := h.hd
    show 0 < d + (1000000000 : Int) * wval (e :: l)
    omega
theorem dg_uniq : ∀ {l : List Int} (n : Nat), WDg l → (l ≠ [] → nth l (l.length - 1) ≠ 0) → wval l = n → l = dg n
  | [], n, _, _, h => by
    have h : (0 : Int) = n := h
    rw [show n = 0 by omega, dg_zero]
  | d :: l, n, h1, h2, h3 => by
    have h4 := h1.hd
    have hl := h2 (by simp)
    have hpos := wval_pos_last h1 (by simp) hl
    have hnn := wval_nn h1.tl
    have h3 : d + (1000000000 : Int) * wval l = n := h3
    have hn : n ≠ 0 := fun e => by subst e; have : wval (d :: l) = d + (1000000000 : Int) * wval l := rfl; omega
    rw [dg_pos hn]
    have e1 : ((n % 1000000000 : Nat) : Int) = d := by omega
    have e2 : wval l = ((n / 1000000000 : Nat) : Int) := by omega
    rw [e1, ← dg_uniq (n / 1000000000) h1.tl (fun hne => ?_) e2]
    rcases l with _ | ⟨x, l⟩
    · exact absurd rfl hne
    · exact hl
theorem dg_trim {l : List Int} {k : Nat} (hk : k ≤ l.length) (h : WDg l) (h1 : k = 0 ∨ nth l (k - 1) ≠ 0) (h2 : ∀ d ∈ l.drop k, d = 0) : l.take k = dg (wval l).toNat := by
  have e := wval_take_drop l k hk
  rw [wval_zeros h2] at e
  have h3 := wval_nn h
  refine dg_uniq _ (h.take k) (fun hne => ?_) (by omega)
  rw [List.length_take, Nat.min_eq_left hk]
  rcases h1 with h1 | h1
  · subst h1; exact absurd rfl hne
  · have : nth (l.take k) (k - 1) = nth l (k - 1) := by
      have hk0 : k ≠ 0 := fun e => by subst e; exact hne rfl
      unfold nth
      rw [List.getD_eq_getElem?_getD, List.getD_eq_getElem?_getD, List.getElem?_take_of_lt (by omega)]
    rwa [this]
theorem dg_lower (n : Nat) (h : n ≠ 0) : (1000000000 : Int) ^ ((dg n).length - 1) ≤ n := by
  have hd := dg_WDg n
  have hl := dg_last n h
  have hlen : (dg n).length ≠ 0 := fun e => h (dg_len0.1 e)
  have e := wval_take_drop (dg n) ((dg n).length - 1) (by omega)
  rw [dg_val] at e
  have h1 := wval_nn (hd.take ((dg n).length - 1))
  have h2 : (dg n).drop ((dg n).length - 1) = [nth (dg n) ((dg n).length - 1)] := by
    rw [drop_getD (by omega), List.drop_of_length_le (by omega)]
  rw [h2] at e
  have h3 : wval [nth (dg n) ((dg n).length - 1)] = nth (dg n) ((dg n).length - 1) := by show _ + (1000000000 : Int) * 0 = _; simp
  rw [h3] at e
  have h4 := hd.nth ((dg n).length - 1)
  have h5 : (1000000000 : Int) ^ ((dg n).length - 1) * 1 ≤ (1000000000 : Int) ^ ((dg n).length - 1) * nth (dg n) ((dg n).length - 1) := Int.mul_le_mul_of_nonneg_left (by omega) (Int.le_of_lt (wpow_pos _))
  omega
theorem dg_upper (n : Nat) : (n : Int) < (1000000000 : Int) ^ (dg n).length := by
  have := wval_lt (dg_WDg n)
  rwa [dg_val] at this
theorem wpow_le {a b : Nat} (h : a ≤ b) : (1000000000 : Int) ^ a ≤ (1000000000 : Int) ^ b := by
  obtain ⟨c, rfl⟩ := Nat.le.dest h
  rw [Int.pow_add]
  have h1 := wpow_pos a
  have h2 := wpow_pos c
  have h3 : (1000000000 : Int) ^ a * 1 ≤ (1000000000 : Int) ^ a * (1000000000 : Int) ^ c := Int.mul_le_mul_of_nonneg_left (by omega) (Int.le_of_lt h1)
  omega
theorem dg_len_le {n k : Nat} (h : (n : Int) < (1000000000 : Int) ^ k) : (dg n).length ≤ k := by
  by_cases hn : n = 0
  · subst hn; rw [dg_zero]; exact Nat.zero_le _
  · have h1 := dg_lower n hn
    refine Decidable.byContradiction fun h2 => ?_
    have h3 := wpow_le (a := k) (b := (dg n).length - 1) (by omega)
    omega
theorem dg_lt_of_len {m n : Nat} (h : (dg m).length < (dg n).length) : m < n := by
  have h1 := dg_upper m
  have h2 := dg_lower n (fun e => by rw [e, dg_zero] at h; simp at h)
  have h3 := wpow_le (a := (dg m).length) (b := (dg n).length - 1) (by omega)
  omega
theorem wval_cmp {a b : List Int} (hl : a.length = b.length) (ha : WDg a) (hb : WDg b) {k : Nat} (hk : k < a.length) (he : a.drop (k + 1) = b.drop (k + 1)) (hlt : nth a k < nth b k) : wval a < wval b := by
  have e1 := wval_take_drop a k (by omega)
  have e2 := wval_take_drop b k (by omega)
  rw [drop_getD hk] at e1
  rw [drop_getD (by omega), ← he] at e2
  have e1 : wval a = wval (a.take k) + (1000000000 : Int) ^ k * (nth a k + (1000000000 : Int) * wval (a.drop (k + 1))) := e1
  have e2 : wval b = wval (b.take k) + (1000000000 : Int) ^ k * (nth b k + (1000000000 : Int) * wval (a.drop (k + 1))) := e2
  have h1 := wval_lt (ha.take k)
  have h2 := wval_nn (hb.take k)
  rw [List.length_take, Nat.min_eq_left (by omega)] at h1
  have h3 : (1000000000 : Int) ^ k * (nth a k + (1000000000 : Int) * wval (a.drop (k + 1)) + 1) ≤ (1000000000 : Int) ^ k * (nth b k + (1000000000 : Int) * wval (a.drop (k + 1))) := Int.mul_le_mul_of_nonneg_left (by omega) (Int.le_of_lt (wpow_pos _))
  rw [Int.mul_add, Int.mul_one] at h3
  omega
end Go.Proofs.Ytgjhikjnlcbmkaa

/- Digits: walks. -/
namespace Go.Proofs.Ytgjhikjnlcbmkaa
open Go.RowKit
set_option maxRecDepth 20000
set_option maxHeartbeats 8000000

abbrev wdC (x : Int) : List DV := [I x.sign, isl (dg x.natAbs)]
abbrev wdV (x : Int) : DV := .agg (wdC x)
theorem trimmed_A (l : List Int) (hd : WDg l) (hm : l.length ≤ 100000000) : AC Try.prog 96 [isl l] (isl (dg (wval l).toNat)) := by
  refine ac_body Try.func96 rfl (by kernel_rfl) fun w0 ok => ?_; show AWp _ (ctx0 w0 ok _) _ (ARet _ _ _) (entry _)
  (repeat' (first | (with_reducible first | intro hg | refine mv (by constructor) ?_) | ((with_reducible first | refine zR ?_ ?_ | refine zW mixed ?_ ?_); exact kr) | ((with_reducible apply zK); exact rfl; exact tf) | ((with_reducible apply zCD); exact rfl) | ((with_reducible apply zCN); exact rfl) | ((with_reducible apply zC); exact rfl) | ((with_reducible refine zX ?_ ?_); exact rfl) | ((with_reducible refine zE (And.intro ?_ ?_)); exact kr) | (with_reducible refine zE ?_) | ((with_reducible apply zP); exact dp) | ((with_reducible apply zN); exact dn) | ((with_reducible apply zA); exact da) | ((with_reducible apply zS); exact ds) | ((with_reducible apply zY); exact rfl; exact rfl; exact tf) | ((with_reducible apply zG); exact rfl; exact rfl; exact tf) | ((with_reducible apply zU); exact rfl; exact rfl) | ((with_reducible apply zD); exact rfl; exact rfl) | ((with_reducible apply zB); exact rfl; exact rfl)))
  refine awp_loopL (α := Nat) (fun k => [(0, .d (isl l)), (3, .d (I k))]) (fun _ => []) (fun k => k ≤ l.length ∧ ∀ d ∈ l.drop k, d = 0) (fun k => k) l.length ⟨Nat.le_refl _, fun d hd => by rw [List.drop_of_length_le (Nat.le_refl _)] at hd; simp at hd⟩ (And.intro rfl (And.intro rfl trivial)) trivial fun k ⟨hk, hz⟩ => ?_
  rcases k with _ | k
  · rw [← dg_trim (Nat.zero_le _) hd (.inl rfl) hz]
    (repeat' (first | (with_reducible first | intro hg | refine mv (by constructor) ?_) | ((with_reducible first | refine zR ?_ ?_ | refine zW mixed ?_ ?_); exact kr) | ((with_reducible apply zK); exact rfl; exact tf) | ((with_reducible apply zCD); exact rfl) | ((with_reducible apply zCN); exact rfl) | ((with_reducible apply zC); exact rfl) | ((with_reducible refine zX ?_ ?_); exact rfl) | ((with_reducible refine zE (And.intro ?_ ?_)); exact kr) | (with_reducible refine zE ?_) | ((with_reducible apply zP); exact dp) | ((with_reducible apply zN); exact dn) | ((with_reducible apply zA); exact da) | ((with_reducible apply zS); exact ds) | ((with_reducible apply zY); exact rfl; exact rfl; exact tf) | ((with_reducible apply zG); exact rfl; exact rfl; exact tf) | ((with_reducible apply zU); exact rfl; exact rfl) | ((with_reducible apply zD); exact rfl; exact rfl) | ((with_reducible apply zB); exact rfl; exact rfl)))
    ((with_reducible first | apply q_retR | apply q_retN); exact rl)
    rfl
  · have i1 : AV.d (I (((k + 1 : Nat) : Int) - 1)) = AV.d (I (k : Int)) := congrArg (fun n => AV.d (I n)) (by omega)
    by_cases h0 : nth l k = 0
    · (repeat' (first | (with_reducible first | intro hg | refine mv (by constructor) ?_) | ((with_reducible first | refine zR ?_ ?_ | refine zW mixed ?_ ?_); exact kr) | ((with_reducible apply zK); exact rfl; exact tf) | ((with_reducible apply zCD); exact rfl) | ((with_reducible apply zCN); exact rfl) | ((with_reducible apply zC); exact rfl) | ((with_reducible refine zX ?_ ?_); exact rfl) | ((with_reducible refine zE (And.intro ?_ ?_)); exact kr) | (with_reducible refine zE ?_) | ((with_reducible apply zP); (first | exact o_indexI (j := k) (xs := l) rfl i1 (by omega) rfl | exact dp)) | ((with_reducible apply zN); exact dn) | ((with_reducible apply zA); exact da) | ((with_reducible apply zS); exact ds) | ((with_reducible apply zY); exact rfl; exact rfl; exact tf) | ((with_reducible apply zG); exact rfl; exact rfl; exact tf) | ((with_reducible apply zU); exact rfl; exact rfl) | ((with_reducible apply zD); exact rfl; exact rfl) | ((with_reducible apply zB); exact rfl; exact rfl)))
      refine ⟨k, ⟨by omega, fun d hd => ?_⟩, by omega, (And.intro rfl (And.intro (i1) trivial)), trivial⟩
      rw [drop_getD (by omega)] at hd
      rcases List.mem_cons.1 hd with rfl | hd
      · exact h0
      · exact hz d hd
    · rw [← dg_trim hk hd (.inr h0) hz]
      (repeat' (first | (with_reducible first | intro hg | refine mv (by constructor) ?_) | ((with_reducible first | refine zR ?_ ?_ | refine zW mixed ?_ ?_); exact kr) | ((with_reducible apply zK); exact rfl; exact tf) | ((with_reducible apply zCD); exact rfl) | ((with_reducible apply zCN); exact rfl) | ((with_reducible apply zC); exact rfl) | ((with_reducible refine zX ?_ ?_); exact rfl) | ((with_reducible refine zE (And.intro ?_ ?_)); exact kr) | (with_reducible refine zE ?_) | ((with_reducible apply zP); (first | exact o_indexI (j := k) (xs := l) rfl i1 (by omega) rfl | exact dp)) | ((with_reducible apply zN); exact dn) | ((with_reducible apply zA); exact da) | ((with_reducible apply zS); exact ds) | ((with_reducible apply zY); exact rfl; exact rfl; exact tf) | ((with_reducible apply zG); exact rfl; exact rfl; exact tf) | ((with_reducible apply zU); exact rfl; exact rfl) | ((with_reducible apply zD); exact rfl; exact rfl) | ((with_reducible apply zB); exact rfl; exact rfl)))
      ((with_reducible first | apply q_retR | apply q_retN); exact rl)
      rfl
theorem wideOf_A (s : Int) (l : List Int) (x : Int) (hd : WDg l) (hm : l.length ≤ 100000000) (h : x.natAbs = (wval l).toNat) (hs : x ≠ 0 → s = x.sign) : AC Try.prog 79 [I s, isl l] (wdV x) := by
  have ht := trimmed_A l hd hm
  rw [← h] at ht
  by_cases hx : x = 0
  · have hl : (dg x.natAbs).length = 0 := by rw [hx]; exact dg_len0.2 rfl
    have hs : x.sign = 0 := by rw [hx]; rfl
    show AC _ _ _ (.agg [I x.sign, isl (dg x.natAbs)])
    rw [hs]
    refine ac_body Try.func79 rfl (by kernel_rfl) fun w0 ok => ?_; show AWp _ (ctx0 w0 ok _) _ (ARet _ _ _) (entry _)
    (repeat' (first | (with_reducible first | intro hg | refine mv (by constructor) ?_) | ((with_reducible first | refine zR ?_ ?_ | refine zW mixed ?_ ?_); exact kr) | ((with_reducible apply zK); exact rfl; exact tf) | ((with_reducible apply zCD); exact rfl) | ((with_reducible apply zCN); exact rfl) | ((with_reducible apply zC); exact rfl) | ((with_reducible refine zX ?_ ?_); exact rfl) | ((with_reducible refine zE (And.intro ?_ ?_)); exact kr) | (with_reducible refine zE ?_) | ((with_reducible apply zP); (first | exact dp | exact oc rfl (ht))) | ((with_reducible apply zN); exact dn) | ((with_reducible apply zA); exact da) | ((with_reducible apply zS); exact ds) | ((with_reducible apply zY); exact rfl; exact rfl; exact tf) | ((with_reducible apply zG); exact rfl; exact rfl; exact tf) | ((with_reducible apply zU); exact rfl; exact rfl) | ((with_reducible apply zD); exact rfl; exact rfl) | ((with_reducible apply zB); exact rfl; exact rfl)))
    ((with_reducible first | apply q_retR | apply q_retN); exact rl)
    rfl
  · have hl : (dg x.natAbs).length ≠ 0 := fun e => hx (by have := dg_len0.1 e; omega)
    show AC _ _ _ (.agg [I x.sign, isl (dg x.natAbs)])
    rw [← hs hx]
    refine ac_body Try.func79 rfl (by kernel_rfl) fun w0 ok => ?_; show AWp _ (ctx0 w0 ok _) _ (ARet _ _ _) (entry _)
    (repeat' (first | (with_reducible first | intro hg | refine mv (by constructor) ?_) | ((with_reducible first | refine zR ?_ ?_ | refine zW mixed ?_ ?_); exact kr) | ((with_reducible apply zK); exact rfl; exact tf) | ((with_reducible apply zCD); exact rfl) | ((with_reducible apply zCN); exact rfl) | ((with_reducible apply zC); exact rfl) | ((with_reducible refine zX ?_ ?_); exact rfl) | ((with_reducible refine zE (And.intro ?_ ?_)); exact kr) | (with_reducible refine zE ?_) | ((with_reducible apply zP); (first | exact dp | exact oc rfl (ht))) | ((with_reducible apply zN); exact dn) | ((with_reducible apply zA); exact da) | ((with_reducible apply zS); exact ds) | ((with_reducible apply zY); exact rfl; exact rfl; exact tf) | ((with_reducible apply zG); exact rfl; exact rfl; exact tf) | ((with_reducible apply zU); exact rfl; exact rfl) | ((with_reducible apply zD); exact rfl; exact rfl) | ((with_reducible apply zB); exact rfl; exact rfl)))
    ((with_reducible first | apply q_retR | apply q_retN); exact rl)
    rfl
theorem natAbs_tmod_b (m : Int) : ((m.tmod 1000000000).natAbs : Int) = ((m.natAbs % 1000000000 : Nat) : Int) := by rw [Int.natAbs_tmod]; rfl
theorem natAbs_tdiv_b (m : Int) : (m.tdiv 1000000000).natAbs = m.natAbs / 1000000000 := by rw [Int.natAbs_tdiv]; rfl
theorem wstep {Z w N r q M : Int} (h : w + Z * M = N) (hM : M = r + 1000000000 * q) : w + Z * r + 1000000000 * Z * q = N := by subst hM; grind
theorem bigOf_A (n : Int) (hn : I64 n) : AC Try.prog 41 [I n] (wdV n) := by
  have hsg : n < 0 ∧ (n ≠ 0 → (-1 : Int) = n.sign) ∨ ¬ n < 0 ∧ (n ≠ 0 → (1 : Int) = n.sign) := by
    by_cases h : n < 0
    · exact .inl ⟨h, fun _ => (Int.sign_eq_neg_one_of_neg h).symm⟩
    · exact .inr ⟨h, fun h0 => (Int.sign_eq_one_of_pos (by omega)).symm⟩
  have hn' := hn
  obtain ⟨hn1, hn2⟩ := hn'
  rcases hsg with ⟨hneg, hsg⟩ | ⟨hneg, hsg⟩
  all_goals
    refine ac_body Try.func41 rfl (by kernel_rfl) fun w0 ok => ?_; show AWp _ (ctx0 w0 ok _) _ (ARet _ _ _) (entry _)
    (repeat' (first | (with_reducible first | intro hg | refine mv (by constructor) ?_) | ((with_reducible first | refine zR ?_ ?_ | refine zW mixed ?_ ?_); exact kr) | ((with_reducible apply zK); exact rfl; exact tf) | ((with_reducible apply zCD); exact rfl) | ((with_reducible apply zCN); exact rfl) | ((with_reducible apply zC); exact rfl) | ((with_reducible refine zX ?_ ?_); exact rfl) | ((with_reducible refine zE (And.intro ?_ ?_)); exact kr) | (with_reducible refine zE ?_) | ((with_reducible apply zP); exact dp) | ((with_reducible apply zN); exact dn) | ((with_reducible apply zA); exact da) | ((with_reducible apply zS); exact ds) | ((with_reducible apply zY); exact rfl; exact rfl; exact tf) | ((with_reducible apply zG); exact rfl; exact rfl; exact tf) | ((with_reducible apply zU); exact rfl; exact rfl) | ((with_reducible apply zD); exact rfl; exact rfl) | ((with_reducible apply zB); exact rfl; exact rfl)))
    refine awp_loopL3 (fun (s m : Int) (L : List Int) => [(0, .d (I m)), (2, .ptr 2 0), (3, .d (I s)), (4, ownL 14 L)]) (fun _ _ L => (2, ⟨93, [I 0, nilV]⟩) :: ownLM 14 3 L) (fun s m L => (n ≠ 0 → s = n.sign) ∧ WDg L ∧ wval L + (1000000000 : Int) ^ L.length * (m.natAbs : Int) = n.natAbs ∧ I64 m ∧ L.length ≤ 3) (fun _ m _ => m.natAbs) _ n [] ⟨hsg, .nil, by show 0 + (1000000000 : Int) ^ 0 * _ = _; simp, hn, Nat.zero_le _⟩ (And.intro rfl (And.intro rfl (And.intro rfl (And.intro rfl trivial)))) (And.intro rfl trivial) fun s m L ⟨hs, hL, hv, ⟨hm1, hm2⟩, hl3⟩ => ?_
    by_cases h0 : m = 0
    · subst h0
      refine awp_ownL 4 14 (t := 3) L rfl (fun x k hk => by rw [hk]; rfl) ?_
      have hv : wval L + (1000000000 : Int) ^ L.length * 0 = n.natAbs := hv
      have hw := wideOf_A s L n hL (by omega) (by omega) hs
      (repeat' (first | (with_reducible first | intro hg | refine mv (by constructor) ?_) | ((with_reducible first | refine zR ?_ ?_ | refine zW mixed ?_ ?_); exact kr) | ((with_reducible apply zK); exact rfl; exact tf) | ((with_reducible apply zCD); exact rfl) | ((with_reducible apply zCN); exact rfl) | ((with_reducible apply zC); exact rfl) | ((with_reducible refine zX ?_ ?_); exact rfl) | ((with_reducible refine zE (And.intro ?_ ?_)); exact kr) | (with_reducible refine zE ?_) | ((with_reducible apply zP); (first | exact dp | exact oc rfl (hw))) | ((with_reducible apply zN); exact dn) | ((with_reducible apply zA); exact da) | ((with_reducible apply zS); exact ds) | ((with_reducible apply zY); exact rfl; exact rfl; exact tf) | ((with_reducible apply zG); exact rfl; exact rfl; exact tf) | ((with_reducible apply zU); exact rfl; exact rfl) | ((with_reducible apply zD); exact rfl; exact rfl) | ((with_reducible apply zB); exact rfl; exact rfl)))
      ((with_reducible first | apply q_retR | apply q_retN); exact rl)
      rfl
    · have hab := natAbs_tmod_b m
      have hq := natAbs_tdiv_b m
      have hZ := wpow_pos L.length
      have hnn := wval_nn hL
      have hlen : L.length ≤ 2 := by
        refine Decidable.byContradiction fun h => ?_
        have h1 := wpow_le (a := 3) (b := L.length) (by omega)
        have h2 : (1000000000 : Int) ^ L.length * 1 ≤ (1000000000 : Int) ^ L.length * (m.natAbs : Int) := Int.mul_le_mul_of_nonneg_left (by omega) (Int.le_of_lt hZ)
        have h3 : (1000000000 : Int) ^ 3 = 1000000000000000000000000000 := by decide
        omega
      have hsz := bsize_A (m.tmod 1000000000) ⟨by omega, by omega⟩
      have hdg : WDg (L ++ [((m.tmod 1000000000).natAbs : Int)]) := hL.app (.cons ⟨by omega, by omega⟩ .nil)
      have hval : wval (L ++ [((m.tmod 1000000000).natAbs : Int)]) + (1000000000 : Int) ^ (L ++ [((m.tmod 1000000000).natAbs : Int)]).length * ((m.tdiv 1000000000).natAbs : Int) = n.natAbs := by
        rw [wval_snoc, List.length_append, List.length_singleton, wpow_succ]
        exact wstep hv (by omega)
      rcases L with _ | ⟨x, L⟩
      · (repeat' (first | (with_reducible first | intro hg | refine mv (by constructor) ?_) | ((with_reducible first | refine zR ?_ ?_ | refine zW mixed ?_ ?_); exact kr) | ((with_reducible apply zK); exact rfl; exact tf) | ((with_reducible apply zCD); exact rfl) | ((with_reducible apply zCN); exact rfl) | ((with_reducible apply zC); exact rfl) | ((with_reducible refine zX ?_ ?_); exact rfl) | ((with_reducible refine zE (And.intro ?_ ?_)); exact kr) | (with_reducible refine zE ?_) | ((with_reducible apply zP); (first | exact dp | exact oc rfl (hsz))) | ((with_reducible apply zN); exact dn) | ((with_reducible apply zA); exact da) | ((with_reducible apply zS); exact ds) | ((with_reducible apply zY); exact rfl; exact rfl; exact tf) | ((with_reducible apply zG); exact rfl; exact rfl; exact tf) | ((with_reducible apply zU); exact rfl; exact rfl) | ((with_reducible apply zD); exact rfl; exact rfl) | ((with_reducible apply zB); exact rfl; exact rfl)))
        exact ⟨s, m.tdiv 1000000000, _, ⟨hs, hdg, hval, ⟨by omega, by omega⟩, by simp⟩, by omega, (And.intro rfl (And.intro rfl (And.intro rfl (And.intro rfl trivial)))), (And.intro rfl (And.intro rfl trivial))⟩
      · (repeat' (first | (with_reducible first | intro hg | refine mv (by constructor) ?_) | ((with_reducible first | refine zR ?_ ?_ | refine zW mixed ?_ ?_); exact kr) | ((with_reducible apply zK); exact rfl; exact tf) | ((with_reducible apply zCD); exact rfl) | ((with_reducible apply zCN); exact rfl) | ((with_reducible apply zC); exact rfl) | ((with_reducible refine zX ?_ ?_); exact rfl) | ((with_reducible refine zE (And.intro ?_ ?_)); exact kr) | (with_reducible refine zE ?_) | ((with_reducible apply zP); (first | exact dp | exact oc rfl (hsz))) | ((with_reducible apply zN); exact dn) | ((with_reducible apply zA); exact da) | ((with_reducible apply zS); exact ds) | ((with_reducible apply zY); exact rfl; exact rfl; exact tf) | ((with_reducible apply zG); exact rfl; exact rfl; exact tf) | ((with_reducible apply zU); exact rfl; exact rfl) | ((with_reducible apply zD); exact rfl; exact rfl) | ((with_reducible apply zB); exact rfl; exact rfl)))
        exact ⟨s, m.tdiv 1000000000, x :: (L ++ [((m.tmod 1000000000).natAbs : Int)]), ⟨hs, hdg, hval, ⟨by omega, by omega⟩, by rw [List.length_cons] at hlen; rw [List.length_cons, List.length_append, List.length_singleton]; omega⟩, by omega, (And.intro rfl (And.intro rfl (And.intro rfl (And.intro (ownL_snoc 14 x L _) trivial)))), (And.intro rfl (And.intro (blkL_snoc _ x L _) trivial))⟩

theorem dg_drop {m u k : Nat} (h : (dg m).drop k = dg u) : (dg m).drop (k + 1) = dg (u / 1000000000) := by
  rw [← List.drop_drop, h]
  by_cases hu : u = 0
  · subst hu; rw [dg_zero]; rfl
  · rw [dg_pos hu]; rfl
theorem dg_nth {m u k : Nat} (h : (dg m).drop k = dg u) : nth (dg m) k = ((u % 1000000000 : Nat) : Int) := by
  have e : nth (dg m) k = nth ((dg m).drop k) 0 := by
    unfold nth
    rw [List.getD_eq_getElem?_getD, List.getD_eq_getElem?_getD, List.getElem?_drop, Nat.add_zero]
  rw [e, h]
  by_cases hu : u = 0
  · subst hu; rw [dg_zero]; rfl
  · rw [dg_pos hu]; rfl
theorem dg_in {m u k : Nat} (h : (dg m).drop k = dg u) : k < (dg m).length ↔ u ≠ 0 := by
  constructor
  · intro hk hu
    subst hu
    rw [dg_zero] at h
    have := congrArg List.length h
    rw [List.length_drop, List.length_nil] at this
    omega
  · intro hu
    refine Decidable.byContradiction fun hk => ?_
    rw [List.drop_of_length_le (by omega)] at h
    exact dg_ne hu h.symm
theorem digit_A (l : List Int) (k : Nat) (hm : l.length ≤ 140737488355328) : AC Try.prog 97 [isl l, I k] (I (nth l k)) := by
  by_cases hk : k < l.length
  · refine ac_body Try.func97 rfl (by kernel_rfl) fun w0 ok => ?_; show AWp _ (ctx0 w0 ok _) _ (ARet _ _ _) (entry _)
    (repeat' (first | (with_reducible first | intro hg | refine mv (by constructor) ?_) | ((with_reducible first | refine zR ?_ ?_ | refine zW mixed ?_ ?_); exact kr) | ((with_reducible apply zK); exact rfl; exact tf) | ((with_reducible apply zCD); exact rfl) | ((with_reducible apply zCN); exact rfl) | ((with_reducible apply zC); exact rfl) | ((with_reducible refine zX ?_ ?_); exact rfl) | ((with_reducible refine zE (And.intro ?_ ?_)); exact kr) | (with_reducible refine zE ?_) | ((with_reducible apply zP); exact dp) | ((with_reducible apply zN); exact dn) | ((with_reducible apply zA); exact da) | ((with_reducible apply zS); exact ds) | ((with_reducible apply zY); exact rfl; exact rfl; exact tf) | ((with_reducible apply zG); exact rfl; exact rfl; exact tf) | ((with_reducible apply zU); exact rfl; exact rfl) | ((with_reducible apply zD); exact rfl; exact rfl) | ((with_reducible apply zB); exact rfl; exact rfl)))
    ((with_reducible first | apply q_retR | apply q_retN); exact rl)
    rfl
  · have e : nth l k = 0 := by unfold nth; rw [List.getD_eq_getElem?_getD, List.getElem?_eq_none (by omega)]; rfl
    rw [e]
    refine ac_body Try.func97 rfl (by kernel_rfl) fun w0 ok => ?_; show AWp _ (ctx0 w0 ok _) _ (ARet _ _ _) (entry _)
    (repeat' (first | (with_reducible first | intro hg | refine mv (by constructor) ?_) | ((with_reducible first | refine zR ?_ ?_ | refine zW mixed ?_ ?_); exact kr) | ((with_reducible apply zK); exact rfl; exact tf) | ((with_reducible apply zCD); exact rfl) | ((with_reducible apply zCN); exact rfl) | ((with_reducible apply zC); exact rfl) | ((with_reducible refine zX ?_ ?_); exact rfl) | ((with_reducible refine zE (And.intro ?_ ?_)); exact kr) | (with_reducible refine zE ?_) | ((with_reducible apply zP); exact dp) | ((with_reducible apply zN); exact dn) | ((with_reducible apply zA); exact da) | ((with_reducible apply zS); exact ds) | ((with_reducible apply zY); exact rfl; exact rfl; exact tf) | ((with_reducible apply zG); exact rfl; exact rfl; exact tf) | ((with_reducible apply zU); exact rfl; exact rfl) | ((with_reducible apply zD); exact rfl; exact rfl) | ((with_reducible apply zB); exact rfl; exact rfl)))
    ((with_reducible first | apply q_retR | apply q_retN); exact rl)
    rfl
theorem cmpDigits_A (m n : Nat) (h1 : (dg m).length ≤ 140737488355328) (h2 : (dg n).length ≤ 140737488355328) : AC Try.prog 82 [isl (dg m), isl (dg n)] (I ((m : Int) - n).sign) := by
  by_cases hl : (dg m).length = (dg n).length
  rotate_left
  · by_cases hl2 : (dg m).length < (dg n).length
    · have := dg_lt_of_len hl2
      rw [Int.sign_eq_neg_one_of_neg (by omega)]
      refine ac_body Try.func82 rfl (by kernel_rfl) fun w0 ok => ?_; show AWp _ (ctx0 w0 ok _) _ (ARet _ _ _) (entry _)
      (repeat' (first | (with_reducible first | intro hg | refine mv (by constructor) ?_) | ((with_reducible first | refine zR ?_ ?_ | refine zW mixed ?_ ?_); exact kr) | ((with_reducible apply zK); exact rfl; exact tf) | ((with_reducible apply zCD); exact rfl) | ((with_reducible apply zCN); exact rfl) | ((with_reducible apply zC); exact rfl) | ((with_reducible refine zX ?_ ?_); exact rfl) | ((with_reducible refine zE (And.intro ?_ ?_)); exact kr) | (with_reducible refine zE ?_) | ((with_reducible apply zP); exact dp) | ((with_reducible apply zN); exact dn) | ((with_reducible apply zA); exact da) | ((with_reducible apply zS); exact ds) | ((with_reducible apply zY); exact rfl; exact rfl; exact tf) | ((with_reducible apply zG); exact rfl; exact rfl; exact tf) | ((with_reducible apply zU); exact rfl; exact rfl) | ((with_reducible apply zD); exact rfl; exact rfl) | ((with_reducible apply zB); exact rfl; exact rfl)))
      ((with_reducible first | apply q_retR | apply q_retN); exact rl)
      rfl
    · have := dg_lt_of_len (m := n) (n := m) (by omega)
      rw [Int.sign_eq_one_of_pos (by omega)]
      refine ac_body Try.func82 rfl (by kernel_rfl) fun w0 ok => ?_; show AWp _ (ctx0 w0 ok _) _ (ARet _ _ _) (entry _)
      (repeat' (first | (with_reducible first | intro hg | refine mv (by constructor) ?_) | ((with_reducible first | refine zR ?_ ?_ | refine zW mixed ?_ ?_); exact kr) | ((with_reducible apply zK); exact rfl; exact tf) | ((with_reducible apply zCD); exact rfl) | ((with_reducible apply zCN); exact rfl) | ((with_reducible apply zC); exact rfl) | ((with_reducible refine zX ?_ ?_); exact rfl) | ((with_reducible refine zE (And.intro ?_ ?_)); exact kr) | (with_reducible refine zE ?_) | ((with_reducible apply zP); exact dp) | ((with_reducible apply zN); exact dn) | ((with_reducible apply zA); exact da) | ((with_reducible apply zS); exact ds) | ((with_reducible apply zY); exact rfl; exact rfl; exact tf) | ((with_reducible apply zG); exact rfl; exact rfl; exact tf) | ((with_reducible apply zU); exact rfl; exact rfl) | ((with_reducible apply zD); exact rfl; exact rfl) | ((with_reducible apply zB); exact rfl; exact rfl)))
      ((with_reducible first | apply q_retR | apply q_retN); exact rl)
      rfl
  refine ac_body Try.func82 rfl (by kernel_rfl) fun w0 ok => ?_; show AWp _ (ctx0 w0 ok _) _ (ARet _ _ _) (entry _)
  (repeat' (first | (with_reducible first | intro hg | refine mv (by constructor) ?_) | ((with_reducible first | refine zR ?_ ?_ | refine zW mixed ?_ ?_); exact kr) | ((with_reducible apply zK); exact rfl; exact tf) | ((with_reducible apply zCD); exact rfl) | ((with_reducible apply zCN); exact rfl) | ((with_reducible apply zC); exact rfl) | ((with_reducible refine zX ?_ ?_); exact rfl) | ((with_reducible refine zE (And.intro ?_ ?_)); exact kr) | (with_reducible refine zE ?_) | ((with_reducible apply zP); exact dp) | ((with_reducible apply zN); exact dn) | ((with_reducible apply zA); exact da) | ((with_reducible apply zS); exact ds) | ((with_reducible apply zY); exact rfl; exact rfl; exact tf) | ((with_reducible apply zG); exact rfl; exact rfl; exact tf) | ((with_reducible apply zU); exact rfl; exact rfl) | ((with_reducible apply zD); exact rfl; exact rfl) | ((with_reducible apply zB); exact rfl; exact rfl)))
  refine awp_loopL (α := Nat) (fun k => [(0, .d (isl (dg m))), (1, .d (isl (dg n))), (5, .d (I ((k : Int) - 1)))]) (fun _ => []) (fun k => k ≤ (dg m).length ∧ (dg m).drop k = (dg n).drop k) (fun k => k) (dg m).length ⟨Nat.le_refl _, by rw [List.drop_of_length_le (Nat.le_refl _), hl, List.drop_of_length_le (Nat.le_refl _)]⟩ (And.intro rfl (And.intro rfl (And.intro rfl trivial))) trivial fun k ⟨hk, hd⟩ => ?_
  rcases k with _ | k
  · have e : m = n := by
      have := congrArg wval (show dg m = dg n from hd)
      rw [dg_val, dg_val] at this
      omega
    have e2 : ((m : Int) - n).sign = 0 := by rw [e, Int.sub_self]; rfl
    rw [e2]
    (repeat' (first | (with_reducible first | intro hg | refine mv (by constructor) ?_) | ((with_reducible first | refine zR ?_ ?_ | refine zW mixed ?_ ?_); exact kr) | ((with_reducible apply zK); exact rfl; exact tf) | ((with_reducible apply zCD); exact rfl) | ((with_reducible apply zCN); exact rfl) | ((with_reducible apply zC); exact rfl) | ((with_reducible refine zX ?_ ?_); exact rfl) | ((with_reducible refine zE (And.intro ?_ ?_)); exact kr) | (with_reducible refine zE ?_) | ((with_reducible apply zP); exact dp) | ((with_reducible apply zN); exact dn) | ((with_reducible apply zA); exact da) | ((with_reducible apply zS); exact ds) | ((with_reducible apply zY); exact rfl; exact rfl; exact tf) | ((with_reducible apply zG); exact rfl; exact rfl; exact tf) | ((with_reducible apply zU); exact rfl; exact rfl) | ((with_reducible apply zD); exact rfl; exact rfl) | ((with_reducible apply zB); exact rfl; exact rfl)))
    ((with_reducible first | apply q_retR | apply q_retN); exact rl)
    rfl
  · have i1 : AV.d (I (((k + 1 : Nat) : Int) - 1)) = AV.d (I (k : Int)) := congrArg (fun n => AV.d (I n)) (by omega)
    have i2 : AV.d (I (((k + 1 : Nat) : Int) - 1 - 1)) = AV.d (I ((k : Int) - 1)) := congrArg (fun n => AV.d (I n)) (by omega)
    have hv1 := dg_val m
    have hv2 := dg_val n
    by_cases hlt : nth (dg m) k < nth (dg n) k
    · have hh := wval_cmp hl (dg_WDg m) (dg_WDg n) (by omega) hd hlt
      rw [Int.sign_eq_neg_one_of_neg (by omega)]
      (repeat' (first | (with_reducible first | intro hg | refine mv (by constructor) ?_) | ((with_reducible first | refine zR ?_ ?_ | refine zW mixed ?_ ?_); exact kr) | ((with_reducible apply zK); exact rfl; exact tf) | ((with_reducible apply zCD); exact rfl) | ((with_reducible apply zCN); exact rfl) | ((with_reducible apply zC); exact rfl) | ((with_reducible refine zX ?_ ?_); exact rfl) | ((with_reducible refine zE (And.intro ?_ ?_)); exact kr) | (with_reducible refine zE ?_) | ((with_reducible apply zP); (first | exact o_indexI (j := k) rfl i1 (by omega) rfl | exact dp)) | ((with_reducible apply zN); exact dn) | ((with_reducible apply zA); exact da) | ((with_reducible apply zS); exact ds) | ((with_reducible apply zY); exact rfl; exact rfl; exact tf) | ((with_reducible apply zG); exact rfl; exact rfl; exact tf) | ((with_reducible apply zU); exact rfl; exact rfl) | ((with_reducible apply zD); exact rfl; exact rfl) | ((with_reducible apply zB); exact rfl; exact rfl)))
      ((with_reducible first | apply q_retR | apply q_retN); exact rl)
      rfl
    · by_cases hgt : nth (dg n) k < nth (dg m) k
      · have hh := wval_cmp hl.symm (dg_WDg n) (dg_WDg m) (by omega) hd.symm hgt
        rw [Int.sign_eq_one_of_pos (by omega)]
        (repeat' (first | (with_reducible first | intro hg | refine mv (by constructor) ?_) | ((with_reducible first | refine zR ?_ ?_ | refine zW mixed ?_ ?_); exact kr) | ((with_reducible apply zK); exact rfl; exact tf) | ((with_reducible apply zCD); exact rfl) | ((with_reducible apply zCN); exact rfl) | ((with_reducible apply zC); exact rfl) | ((with_reducible refine zX ?_ ?_); exact rfl) | ((with_reducible refine zE (And.intro ?_ ?_)); exact kr) | (with_reducible refine zE ?_) | ((with_reducible apply zP); (first | exact o_indexI (j := k) rfl i1 (by omega) rfl | exact dp)) | ((with_reducible apply zN); exact dn) | ((with_reducible apply zA); exact da) | ((with_reducible apply zS); exact ds) | ((with_reducible apply zY); exact rfl; exact rfl; exact tf) | ((with_reducible apply zG); exact rfl; exact rfl; exact tf) | ((with_reducible apply zU); exact rfl; exact rfl) | ((with_reducible apply zD); exact rfl; exact rfl) | ((with_reducible apply zB); exact rfl; exact rfl)))
        ((with_reducible first | apply q_retR | apply q_retN); exact rl)
        rfl
      · (repeat' (first | (with_reducible first | intro hg | refine mv (by constructor) ?_) | ((with_reducible first | refine zR ?_ ?_ | refine zW mixed ?_ ?_); exact kr) | ((with_reducible apply zK); exact rfl; exact tf) | ((with_reducible apply zCD); exact rfl) | ((with_reducible apply zCN); exact rfl) | ((with_reducible apply zC); exact rfl) | ((with_reducible refine zX ?_ ?_); exact rfl) | ((with_reducible refine zE (And.intro ?_ ?_)); exact kr) | (with_reducible refine zE ?_) | ((with_reducible apply zP); (first | exact o_indexI (j := k) rfl i1 (by omega) rfl | exact dp)) | ((with_reducible apply zN); exact dn) | ((with_reducible apply zA); exact da) | ((with_reducible apply zS); exact ds) | ((with_reducible apply zY); exact rfl; exact rfl; exact tf) | ((with_reducible apply zG); exact rfl; exact rfl; exact tf) | ((with_reducible apply zU); exact rfl; exact rfl) | ((with_reducible apply zD); exact rfl; exact rfl) | ((with_reducible apply zB); exact rfl; exact rfl)))
        refine ⟨k, ⟨by omega, ?_⟩, by omega, (And.intro rfl (And.intro rfl (And.intro (i2) trivial))), trivial⟩
        rw [drop_getD (by omega), drop_getD (xs := dg n) (by omega), hd, show nth (dg m) k = nth (dg n) k by omega]

end Go.Proofs.Ytgjhikjnlcbmkaa

/- Whole numbers of any size: sums, differences, products: walks. -/
namespace Go.Proofs.Ytgjhikjnlcbmkaa
open Go.RowKit
set_option maxRecDepth 20000
set_option maxHeartbeats 8000000

abbrev wlen (x : Int) : Nat := (dg x.natAbs).length
theorem dg_len_mono {m n : Nat} (h : m ≤ n) : (dg m).length ≤ (dg n).length := by
  refine dg_len_le ?_
  have := dg_upper n
  omega
theorem dg_len_add (m n : Nat) : (dg (m + n)).length ≤ (dg m).length + (dg n).length + 1 := by
  refine dg_len_le ?_
  have h1 := dg_upper m
  have h2 := dg_upper n
  have h3 := wpow_le (a := (dg m).length) (b := (dg m).length + (dg n).length) (by omega)
  have h4 := wpow_le (a := (dg n).length) (b := (dg m).length + (dg n).length) (by omega)
  have h5 := wpow_pos ((dg m).length + (dg n).length)
  rw [wpow_succ]
  omega
theorem dg_len_mul (m n : Nat) : (dg (m * n)).length ≤ (dg m).length + (dg n).length := by
  refine dg_len_le ?_
  have h1 := dg_upper m
  have h2 := dg_upper n
  rw [Int.pow_add]
  have h3 : (m : Int) * n ≤ m * (1000000000 : Int) ^ (dg n).length := Int.mul_le_mul_of_nonneg_left (by omega) (by omega)
  have h4 : (m : Int) * (1000000000 : Int) ^ (dg n).length < (1000000000 : Int) ^ (dg m).length * (1000000000 : Int) ^ (dg n).length := Int.mul_lt_mul_of_pos_right h1 (wpow_pos _)
  have h5 : ((m * n : Nat) : Int) = (m : Int) * n := Int.natCast_mul _ _
  omega
def AddJ (m n k u v cr : Nat) (L : List Int) : Prop := (dg m).drop k = dg u ∧ (dg n).drop k = dg v ∧ cr ≤ 1 ∧ dg (m + n) = L ++ dg (u + v + cr) ∧ L.length = k
def AddN (m n k : Nat) (cr : Int) : Prop := k < (dg m).length ∨ (¬ k < (dg m).length ∧ k < (dg n).length) ∨ (¬ k < (dg m).length ∧ ¬ k < (dg n).length ∧ 0 < cr)
theorem add_len {m n k u v cr : Nat} {L : List Int} (h : AddJ m n k u v cr L) : k ≤ (dg m).length + (dg n).length + 1 ∧ L.length = k ∧ cr ≤ 1 := by
  obtain ⟨_, _, hc, hd, hL⟩ := h
  have h1 := congrArg List.length hd
  rw [List.length_append] at h1
  have h2 := dg_len_add m n
  exact ⟨by omega, hL, hc⟩
theorem add_end {m n k : Nat} {cr : Nat} {u v : Nat} {L : List Int} (h : AddJ m n k u v cr L) (h0 : u + v + cr = 0) : dg (m + n) = L ∧ ¬ k < (dg m).length ∧ ¬ k < (dg n).length ∧ cr = 0 := by
  obtain ⟨hu, hv, _, hd, _⟩ := h
  rw [h0, dg_zero, List.append_nil] at hd
  exact ⟨hd, fun h => (dg_in hu).1 h (by omega), fun h => (dg_in hv).1 h (by omega), by omega⟩
theorem add_step {m n k u v cr : Nat} {L : List Int} (h : AddJ m n k u v cr L) (h0 : u + v + cr ≠ 0) : ∃ (a b : Int) (c' : Nat), nth (dg m) k = a ∧ nth (dg n) k = b ∧ (0 ≤ a ∧ a < 1000000000) ∧ (0 ≤ b ∧ b < 1000000000) ∧ AddN m n k cr ∧ (a + b + cr) / 1000000000 = (c' : Int) ∧ AddJ m n (k + 1) (u / 1000000000) (v / 1000000000) c' (L ++ [(a + b + cr) % 1000000000]) ∧ L.length < (dg (m + n)).length := by
  obtain ⟨hu, hv, hc, hd, hL⟩ := h
  have du := dg_in hu
  have dv := dg_in hv
  have hnx : (u + v + cr) / 1000000000 = u / 1000000000 + v / 1000000000 + (u % 1000000000 + v % 1000000000 + cr) / 1000000000 := by omega
  refine ⟨_, _, (u % 1000000000 + v % 1000000000 + cr) / 1000000000, dg_nth hu, dg_nth hv, ⟨by omega, by omega⟩, ⟨by omega, by omega⟩, ?_, by omega, ⟨dg_drop hu, dg_drop hv, by omega, ?_, by rw [List.length_append, hL]; rfl⟩, ?_⟩
  · by_cases c1 : k < (dg m).length
    · exact .inl c1
    · by_cases c2 : k < (dg n).length
      · exact .inr (.inl ⟨c1, c2⟩)
      · refine .inr (.inr ⟨c1, c2, ?_⟩)
        have : u = 0 := Decidable.byContradiction fun h => c1 (du.2 h)
        have : v = 0 := Decidable.byContradiction fun h => c2 (dv.2 h)
        omega
  · rw [← hnx, hd, dg_pos h0, List.append_assoc, show (((u % 1000000000 : Nat) : Int) + ((v % 1000000000 : Nat) : Int) + (cr : Int)) % 1000000000 = (((u + v + cr) % 1000000000 : Nat) : Int) by omega]
    rfl
  · rw [hd, dg_pos h0, List.length_append, List.length_cons]; omega
theorem addDigits_A (m n : Nat) (hm : (dg m).length ≤ 1000000) (hn : (dg n).length ≤ 1000000) : AC Try.prog 81 [isl (dg m), isl (dg n)] (isl (dg (m + n))) := by
  refine ac_body Try.func81 rfl (by kernel_rfl) fun w0 ok => ?_; show AWp _ (ctx0 w0 ok _) _ (ARet _ _ _) (entry _)
  (repeat' (first | (with_reducible first | intro hg | refine mv (by constructor) ?_) | ((with_reducible first | refine zR ?_ ?_ | refine zW mixed ?_ ?_); exact kr) | ((with_reducible apply zK); exact rfl; exact tf) | ((with_reducible apply zCD); exact rfl) | ((with_reducible apply zCN); exact rfl) | ((with_reducible apply zC); exact rfl) | ((with_reducible refine zX ?_ ?_); exact rfl) | ((with_reducible refine zE (And.intro ?_ ?_)); exact kr) | (with_reducible refine zE ?_) | ((with_reducible apply zP); exact dp) | ((with_reducible apply zN); exact dn) | ((with_reducible apply zA); exact da) | ((with_reducible apply zS); exact ds) | ((with_reducible apply zY); exact rfl; exact rfl; exact tf) | ((with_reducible apply zG); exact rfl; exact rfl; exact tf) | ((with_reducible apply zU); exact rfl; exact rfl) | ((with_reducible apply zD); exact rfl; exact rfl) | ((with_reducible apply zB); exact rfl; exact rfl)))
  refine awp_loopL3 (fun (k cr : Nat) (L : List Int) => [(0, .d (isl (dg m))), (1, .d (isl (dg n))), (5, ownL 38 L), (6, .d (I cr)), (7, .d (I k))]) (fun _ _ L => ownLM 38 3 L) (fun k cr L => ∃ u v, AddJ m n k u v cr L) (fun _ _ L => (dg (m + n)).length - L.length) 0 0 [] ⟨m, n, rfl, rfl, Nat.zero_le _, rfl, rfl⟩ (And.intro rfl (And.intro rfl (And.intro rfl (And.intro rfl (And.intro rfl trivial))))) trivial fun k cr L ⟨u, v, hJ⟩ => ?_
  obtain ⟨hlen, hL, hcr⟩ := add_len hJ
  by_cases h0 : u + v + cr = 0
  · obtain ⟨hd, d1, d2, d3⟩ := add_end hJ h0
    rw [hd]
    refine awp_ownL 5 38 (t := 3) L rfl (fun x k hk => by rw [hk]; rfl) ?_
    (repeat' (first | (with_reducible first | intro hg | refine mv (by constructor) ?_) | ((with_reducible first | refine zR ?_ ?_ | refine zW mixed ?_ ?_); exact kr) | ((with_reducible apply zK); exact rfl; exact tf) | ((with_reducible apply zCD); exact rfl) | ((with_reducible apply zCN); exact rfl) | ((with_reducible apply zC); exact rfl) | ((with_reducible refine zX ?_ ?_); exact rfl) | ((with_reducible refine zE (And.intro ?_ ?_)); exact kr) | (with_reducible refine zE ?_) | ((with_reducible apply zP); exact dp) | ((with_reducible apply zN); exact dn) | ((with_reducible apply zA); exact da) | ((with_reducible apply zS); exact ds) | ((with_reducible apply zY); exact rfl; exact rfl; exact tf) | ((with_reducible apply zG); exact rfl; exact rfl; exact tf) | ((with_reducible apply zU); exact rfl; exact rfl) | ((with_reducible apply zD); exact rfl; exact rfl) | ((with_reducible apply zB); exact rfl; exact rfl)))
    ((with_reducible first | apply q_retR | apply q_retN); exact rl)
    rfl
  · obtain ⟨a, b, c', ha, hb, hab, hbb, hN, hc', hJ', hμ⟩ := add_step hJ h0
    have a1 := digit_A (dg m) k (by omega)
    have a2 := digit_A (dg n) k (by omega)
    rw [ha] at a1
    rw [hb] at a2
    have er : AV.d (I ((a + b + (cr : Int)) / 1000000000)) = AV.d (I (c' : Int)) := congrArg (fun n => AV.d (I n)) hc'
    have hμ1 : (dg (m + n)).length - (L ++ [(a + b + (cr : Int)) % 1000000000]).length < (dg (m + n)).length - L.length := by rw [List.length_append, List.length_singleton]; omega
    clear hJ h0 hc' ha hb hμ
    rcases hN with c1 | ⟨c1, c2⟩ | ⟨c1, c2, c3⟩
    all_goals rcases L with _ | ⟨x, L⟩
    · (repeat' (first | (with_reducible first | intro hg | refine mv (by constructor) ?_) | ((with_reducible first | refine zR ?_ ?_ | refine zW mixed ?_ ?_); exact kr) | ((with_reducible apply zK); exact rfl; exact tf) | ((with_reducible apply zCD); exact rfl) | ((with_reducible apply zCN); exact rfl) | ((with_reducible apply zC); exact rfl) | ((with_reducible refine zX ?_ ?_); exact rfl) | ((with_reducible refine zE (And.intro ?_ ?_)); exact kr) | (with_reducible refine zE ?_) | ((with_reducible apply zP); (first | exact dp | exact oc rfl (a1) | exact oc rfl (a2))) | ((with_reducible apply zN); exact dn) | ((with_reducible apply zA); exact da) | ((with_reducible apply zS); exact ds) | ((with_reducible apply zY); exact rfl; exact rfl; exact tf) | ((with_reducible apply zG); exact rfl; exact rfl; exact tf) | ((with_reducible apply zU); exact rfl; exact rfl) | ((with_reducible apply zD); exact rfl; exact rfl) | ((with_reducible apply zB); exact rfl; exact rfl)))
      exact ⟨k + 1, c', _, ⟨_, _, hJ'⟩, hμ1, (And.intro rfl (And.intro rfl (And.intro rfl (And.intro (er) (And.intro (rfl) trivial))))), (And.intro rfl trivial)⟩
    · (repeat' (first | (with_reducible first | intro hg | refine mv (by constructor) ?_) | ((with_reducible first | refine zR ?_ ?_ | refine zW mixed ?_ ?_); exact kr) | ((with_reducible apply zK); exact rfl; exact tf) | ((with_reducible apply zCD); exact rfl) | ((with_reducible apply zCN); exact rfl) | ((with_reducible apply zC); exact rfl) | ((with_reducible refine zX ?_ ?_); exact rfl) | ((with_reducible refine zE (And.intro ?_ ?_)); exact kr) | (with_reducible refine zE ?_) | ((with_reducible apply zP); (first | exact dp | exact oc rfl (a1) | exact oc rfl (a2))) | ((with_reducible apply zN); exact dn) | ((with_reducible apply zA); exact da) | ((with_reducible apply zS); exact ds) | ((with_reducible apply zY); exact rfl; exact rfl; exact tf) | ((with_reducible apply zG); exact rfl; exact rfl; exact tf) | ((with_reducible apply zU); exact rfl; exact rfl) | ((with_reducible apply zD); exact rfl; exact rfl) | ((with_reducible apply zB); exact rfl; exact rfl)))
      exact ⟨k + 1, c', x :: (L ++ [(a + b + (cr : Int)) % 1000000000]), ⟨_, _, hJ'⟩, hμ1, (And.intro rfl (And.intro rfl (And.intro (ownL_snoc 38 x L _) (And.intro (er) (And.intro (rfl) trivial))))), (And.intro (blkL_snoc _ x L _) trivial)⟩
    · (repeat' (first | (with_reducible first | intro hg | refine mv (by constructor) ?_) | ((with_reducible first | refine zR ?_ ?_ | refine zW mixed ?_ ?_); exact kr) | ((with_reducible apply zK); exact rfl; exact tf) | ((with_reducible apply zCD); exact rfl) | ((with_reducible apply zCN); exact rfl) | ((with_reducible apply zC); exact rfl) | ((with_reducible refine zX ?_ ?_); exact rfl) | ((with_reducible refine zE (And.intro ?_ ?_)); exact kr) | (with_reducible refine zE ?_) | ((with_reducible apply zP); (first | exact dp | exact oc rfl (a1) | exact oc rfl (a2))) | ((with_reducible apply zN); exact dn) | ((with_reducible apply zA); exact da) | ((with_reducible apply zS); exact ds) | ((with_reducible apply zY); exact rfl; exact rfl; exact tf) | ((with_reducible apply zG); exact rfl; exact rfl; exact tf) | ((with_reducible apply zU); exact rfl; exact rfl) | ((with_reducible apply zD); exact rfl; exact rfl) | ((with_reducible apply zB); exact rfl; exact rfl)))
      exact ⟨k + 1, c', _, ⟨_, _, hJ'⟩, hμ1, (And.intro rfl (And.intro rfl (And.intro rfl (And.intro (er) (And.intro (rfl) trivial))))), (And.intro rfl trivial)⟩
    · (repeat' (first | (with_reducible first | intro hg | refine mv (by constructor) ?_) | ((with_reducible first | refine zR ?_ ?_ | refine zW mixed ?_ ?_); exact kr) | ((with_reducible apply zK); exact rfl; exact tf) | ((with_reducible apply zCD); exact rfl) | ((with_reducible apply zCN); exact rfl) | ((with_reducible apply zC); exact rfl) | ((with_reducible refine zX ?_ ?_); exact rfl) | ((with_reducible refine zE (And.intro ?_ ?_)); exact kr) | (with_reducible refine zE ?_) | ((with_reducible apply zP); (first | exact dp | exact oc rfl (a1) | exact oc rfl (a2))) | ((with_reducible apply zN); exact dn) | ((with_reducible apply zA); exact da) | ((with_reducible apply zS); exact ds) | ((with_reducible apply zY); exact rfl; exact rfl; exact tf) | ((with_reducible apply zG); exact rfl; exact rfl; exact tf) | ((with_reducible apply zU); exact rfl; exact rfl) | ((with_reducible apply zD); exact rfl; exact rfl) | ((with_reducible apply zB); exact rfl; exact rfl)))
      exact ⟨k + 1, c', x :: (L ++ [(a + b + (cr : Int)) % 1000000000]), ⟨_, _, hJ'⟩, hμ1, (And.intro rfl (And.intro rfl (And.intro (ownL_snoc 38 x L _) (And.intro (er) (And.intro (rfl) trivial))))), (And.intro (blkL_snoc _ x L _) trivial)⟩
    · (repeat' (first | (with_reducible first | intro hg | refine mv (by constructor) ?_) | ((with_reducible first | refine zR ?_ ?_ | refine zW mixed ?_ ?_); exact kr) | ((with_reducible apply zK); exact rfl; exact tf) | ((with_reducible apply zCD); exact rfl) | ((with_reducible apply zCN); exact rfl) | ((with_reducible apply zC); exact rfl) | ((with_reducible refine zX ?_ ?_); exact rfl) | ((with_reducible refine zE (And.intro ?_ ?_)); exact kr) | (with_reducible refine zE ?_) | ((with_reducible apply zP); (first | exact dp | exact oc rfl (a1) | exact oc rfl (a2))) | ((with_reducible apply zN); exact dn) | ((with_reducible apply zA); exact da) | ((with_reducible apply zS); exact ds) | ((with_reducible apply zY); exact rfl; exact rfl; exact tf) | ((with_reducible apply zG); exact rfl; exact rfl; exact tf) | ((with_reducible apply zU); exact rfl; exact rfl) | ((with_reducible apply zD); exact rfl; exact rfl) | ((with_reducible apply zB); exact rfl; exact rfl)))
      exact ⟨k + 1, c', _, ⟨_, _, hJ'⟩, hμ1, (And.intro rfl (And.intro rfl (And.intro rfl (And.intro (er) (And.intro (rfl) trivial))))), (And.intro rfl trivial)⟩
    · (repeat' (first | (with_reducible first | intro hg | refine mv (by constructor) ?_) | ((with_reducible first | refine zR ?_ ?_ | refine zW mixed ?_ ?_); exact kr) | ((with_reducible apply zK); exact rfl; exact tf) | ((with_reducible apply zCD); exact rfl) | ((with_reducible apply zCN); exact rfl) | ((with_reducible apply zC); exact rfl) | ((with_reducible refine zX ?_ ?_); exact rfl) | ((with_reducible refine zE (And.intro ?_ ?_)); exact kr) | (with_reducible refine zE ?_) | ((with_reducible apply zP); (first | exact dp | exact oc rfl (a1) | exact oc rfl (a2))) | ((with_reducible apply zN); exact dn) | ((with_reducible apply zA); exact da) | ((with_reducible apply zS); exact ds) | ((with_reducible apply zY); exact rfl; exact rfl; exact tf) | ((with_reducible apply zG); exact rfl; exact rfl; exact tf) | ((with_reducible apply zU); exact rfl; exact rfl) | ((with_reducible apply zD); exact rfl; exact rfl) | ((with_reducible apply zB); exact rfl; exact rfl)))
      exact ⟨k + 1, c', x :: (L ++ [(a + b + (cr : Int)) % 1000000000]), ⟨_, _, hJ'⟩, hμ1, (And.intro rfl (And.intro rfl (And.intro (ownL_snoc 38 x L _) (And.intro (er) (And.intro (rfl) trivial))))), (And.intro (blkL_snoc _ x L _) trivial)⟩
theorem wsub_step {Z w d u v b s u0 v0 u' v' : Int} (h : w + Z * (u - v - b) = d) (hu : u = u0 + 1000000000 * u') (hv : v = v0 + 1000000000 * v') {b' : Int} (hs : u0 - v0 - b = s - 1000000000 * b') : w + Z * s + 1000000000 * Z * (u' - v' - b') = d := by
  have e : u - v - b = s + 1000000000 * (u' - v' - b') := by omega
  rw [e] at h
  rw [← h]; grind
def SubJ (m n k u v br : Nat) (L : List Int) : Prop := (dg m).drop k = dg u ∧ (dg n).drop k = dg v ∧ (br ≤ 1 ∧ v + br ≤ u) ∧ wval L + (1000000000 : Int) ^ L.length * ((u : Int) - v - br) = ((m - n : Nat) : Int) ∧ L.length = k ∧ WDg L
theorem sub_end {m n k u v br : Nat} {L : List Int} (h : SubJ m n k u v br L) (h0 : ¬ k < (dg m).length) : (wval L).toNat = m - n := by
  obtain ⟨hu, hv, ⟨hc, huv⟩, hd, hL, hD⟩ := h
  have e1 : u = 0 := Decidable.byContradiction fun h => h0 ((dg_in hu).2 h)
  have e2 : (u : Int) - v - br = 0 := by omega
  rw [e2, Int.mul_zero, Int.add_zero] at hd
  omega
theorem sub_step {m n k u v br : Nat} {L : List Int} (h : SubJ m n k u v br L) {s : Int} {b' : Nat} (hb : b' ≤ 1) (hs : nth (dg m) k - nth (dg n) k - br = s - 1000000000 * b') (hs2 : 0 ≤ s ∧ s < 1000000000) : SubJ m n (k + 1) (u / 1000000000) (v / 1000000000) b' (L ++ [s]) := by
  obtain ⟨hu, hv, ⟨hc, huv⟩, hd, hL, hD⟩ := h
  have n1 := dg_nth hu
  have n2 := dg_nth hv
  have eu : (u : Int) = ((u % 1000000000 : Nat) : Int) + 1000000000 * ((u / 1000000000 : Nat) : Int) := by omega
  have ev : (v : Int) = ((v % 1000000000 : Nat) : Int) + 1000000000 * ((v / 1000000000 : Nat) : Int) := by omega
  rw [n1, n2] at hs
  refine ⟨dg_drop hu, dg_drop hv, ⟨hb, by omega⟩, ?_, by rw [List.length_append, hL]; rfl, hD.app (.cons hs2 .nil)⟩
  rw [wval_snoc, List.length_append, List.length_singleton, wpow_succ]
  exact wsub_step hd eu ev hs
theorem subDigits_A (m n : Nat) (hmn : n ≤ m) (hm : (dg m).length ≤ 1000000) : AC Try.prog 83 [isl (dg m), isl (dg n)] (isl (dg (m - n))) := by
  have hn := dg_len_mono hmn
  refine ac_body Try.func83 rfl (by kernel_rfl) fun w0 ok => ?_; show AWp _ (ctx0 w0 ok _) _ (ARet _ _ _) (entry _)
  (repeat' (first | (with_reducible first | intro hg | refine mv (by constructor) ?_) | ((with_reducible first | refine zR ?_ ?_ | refine zW mixed ?_ ?_); exact kr) | ((with_reducible apply zK); exact rfl; exact tf) | ((with_reducible apply zCD); exact rfl) | ((with_reducible apply zCN); exact rfl) | ((with_reducible apply zC); exact rfl) | ((with_reducible refine zX ?_ ?_); exact rfl) | ((with_reducible refine zE (And.intro ?_ ?_)); exact kr) | (with_reducible refine zE ?_) | ((with_reducible apply zP); exact dp) | ((with_reducible apply zN); exact dn) | ((with_reducible apply zA); exact da) | ((with_reducible apply zS); exact ds) | ((with_reducible apply zY); exact rfl; exact rfl; exact tf) | ((with_reducible apply zG); exact rfl; exact rfl; exact tf) | ((with_reducible apply zU); exact rfl; exact rfl) | ((with_reducible apply zD); exact rfl; exact rfl) | ((with_reducible apply zB); exact rfl; exact rfl)))
  refine awp_loopL3 (fun (k br : Nat) (L : List Int) => [(0, .d (isl (dg m))), (1, .d (isl (dg n))), (5, ownL 32 L), (6, .d (I br)), (7, .d (I k))]) (fun _ _ L => ownLM 32 3 L) (fun k br L => (∃ u v, SubJ m n k u v br L) ∧ k ≤ (dg m).length) (fun k _ _ => (dg m).length - k) 0 0 [] ⟨⟨m, n, rfl, rfl, ⟨Nat.zero_le _, hmn⟩, by show 0 + (1000000000 : Int) ^ 0 * _ = _; simp; omega, rfl, .nil⟩, Nat.zero_le _⟩ (And.intro rfl (And.intro rfl (And.intro rfl (And.intro rfl (And.intro rfl trivial))))) trivial fun k br L ⟨⟨u, v, hJ⟩, hk⟩ => ?_
  have hc : br ≤ 1 := hJ.2.2.1.1
  have hL : L.length = k := hJ.2.2.2.2.1
  have hD : WDg L := hJ.2.2.2.2.2
  by_cases h0 : k < (dg m).length
  rotate_left
  · have ht := trimmed_A L hD (by omega)
    rw [sub_end hJ h0] at ht
    refine awp_ownL 5 32 (t := 3) L rfl (fun x k hk => by rw [hk]; rfl) ?_
    (repeat' (first | (with_reducible first | intro hg | refine mv (by constructor) ?_) | ((with_reducible first | refine zR ?_ ?_ | refine zW mixed ?_ ?_); exact kr) | ((with_reducible apply zK); exact rfl; exact tf) | ((with_reducible apply zCD); exact rfl) | ((with_reducible apply zCN); exact rfl) | ((with_reducible apply zC); exact rfl) | ((with_reducible refine zX ?_ ?_); exact rfl) | ((with_reducible refine zE (And.intro ?_ ?_)); exact kr) | (with_reducible refine zE ?_) | ((with_reducible apply zP); (first | exact dp | exact oc rfl (ht))) | ((with_reducible apply zN); exact dn) | ((with_reducible apply zA); exact da) | ((with_reducible apply zS); exact ds) | ((with_reducible apply zY); exact rfl; exact rfl; exact tf) | ((with_reducible apply zG); exact rfl; exact rfl; exact tf) | ((with_reducible apply zU); exact rfl; exact rfl) | ((with_reducible apply zD); exact rfl; exact rfl) | ((with_reducible apply zB); exact rfl; exact rfl)))
    ((with_reducible first | apply q_retR | apply q_retN); exact rl)
    rfl
  · have a2 := digit_A (dg n) k (by omega)
    have b1 := (dg_WDg m).nth k
    have b2 := (dg_WDg n).nth k
    by_cases hs : nth (dg m) k - nth (dg n) k - (br : Int) < 0
    · have hJ' := sub_step hJ (s := nth (dg m) k - nth (dg n) k - (br : Int) + 1000000000) (b' := 1) (Nat.le_refl _) (by omega) ⟨by omega, by omega⟩
      clear hJ
      rcases L with _ | ⟨x, L⟩
      · (repeat' (first | (with_reducible first | intro hg | refine mv (by constructor) ?_) | ((with_reducible first | refine zR ?_ ?_ | refine zW mixed ?_ ?_); exact kr) | ((with_reducible apply zK); exact rfl; exact tf) | ((with_reducible apply zCD); exact rfl) | ((with_reducible apply zCN); exact rfl) | ((with_reducible apply zC); exact rfl) | ((with_reducible refine zX ?_ ?_); exact rfl) | ((with_reducible refine zE (And.intro ?_ ?_)); exact kr) | (with_reducible refine zE ?_) | ((with_reducible apply zP); (first | exact o_indexI (j := k) (xs := dg m) rfl rfl (by omega) rfl | exact dp | exact oc rfl (a2))) | ((with_reducible apply zN); exact dn) | ((with_reducible apply zA); exact da) | ((with_reducible apply zS); exact ds) | ((with_reducible apply zY); exact rfl; exact rfl; exact tf) | ((with_reducible apply zG); exact rfl; exact rfl; exact tf) | ((with_reducible apply zU); exact rfl; exact rfl) | ((with_reducible apply zD); exact rfl; exact rfl) | ((with_reducible apply zB); exact rfl; exact rfl)))
        exact ⟨k + 1, 1, _, ⟨⟨_, _, hJ'⟩, h0⟩, by omega, (And.intro rfl (And.intro rfl (And.intro rfl (And.intro rfl (And.intro rfl trivial))))), (And.intro rfl trivial)⟩
      · (repeat' (first | (with_reducible first | intro hg | refine mv (by constructor) ?_) | ((with_reducible first | refine zR ?_ ?_ | refine zW mixed ?_ ?_); exact kr) | ((with_reducible apply zK); exact rfl; exact tf) | ((with_reducible apply zCD); exact rfl) | ((with_reducible apply zCN); exact rfl) | ((with_reducible apply zC); exact rfl) | ((with_reducible refine zX ?_ ?_); exact rfl) | ((with_reducible refine zE (And.intro ?_ ?_)); exact kr) | (with_reducible refine zE ?_) | ((with_reducible apply zP); (first | exact o_indexI (j := k) (xs := dg m) rfl rfl (by omega) rfl | exact dp | exact oc rfl (a2))) | ((with_reducible apply zN); exact dn) | ((with_reducible apply zA); exact da) | ((with_reducible apply zS); exact ds) | ((with_reducible apply zY); exact rfl; exact rfl; exact tf) | ((with_reducible apply zG); exact rfl; exact rfl; exact tf) | ((with_reducible apply zU); exact rfl; exact rfl) | ((with_reducible apply zD); exact rfl; exact rfl) | ((with_reducible apply zB); exact rfl; exact rfl)))
        exact ⟨k + 1, 1, x :: (L ++ [nth (dg m) k - nth (dg n) k - (br : Int) + 1000000000]), ⟨⟨_, _, hJ'⟩, h0⟩, by omega, (And.intro rfl (And.intro rfl (And.intro (ownL_snoc 32 x L _) (And.intro (rfl) (And.intro (rfl) trivial))))), (And.intro (blkL_snoc _ x L _) trivial)⟩
    · have hJ' := sub_step hJ (s := nth (dg m) k - nth (dg n) k - (br : Int)) (b' := 0) (Nat.zero_le _) (by omega) ⟨by omega, by omega⟩
      clear hJ
      rcases L with _ | ⟨x, L⟩
      · (repeat' (first | (with_reducible first | intro hg | refine mv (by constructor) ?_) | ((with_reducible first | refine zR ?_ ?_ | refine zW mixed ?_ ?_); exact kr) | ((with_reducible apply zK); exact rfl; exact tf) | ((with_reducible apply zCD); exact rfl) | ((with_reducible apply zCN); exact rfl) | ((with_reducible apply zC); exact rfl) | ((with_reducible refine zX ?_ ?_); exact rfl) | ((with_reducible refine zE (And.intro ?_ ?_)); exact kr) | (with_reducible refine zE ?_) | ((with_reducible apply zP); (first | exact o_indexI (j := k) (xs := dg m) rfl rfl (by omega) rfl | exact dp | exact oc rfl (a2))) | ((with_reducible apply zN); exact dn) | ((with_reducible apply zA); exact da) | ((with_reducible apply zS); exact ds) | ((with_reducible apply zY); exact rfl; exact rfl; exact tf) | ((with_reducible apply zG); exact rfl; exact rfl; exact tf) | ((with_reducible apply zU); exact rfl; exact rfl) | ((with_reducible apply zD); exact rfl; exact rfl) | ((with_reducible apply zB); exact rfl; exact rfl)))
        exact ⟨k + 1, 0, _, ⟨⟨_, _, hJ'⟩, h0⟩, by omega, (And.intro rfl (And.intro rfl (And.intro rfl (And.intro rfl (And.intro rfl trivial))))), (And.intro rfl trivial)⟩
      · (repeat' (first | (with_reducible first | intro hg | refine mv (by constructor) ?_) | ((with_reducible first | refine zR ?_ ?_ | refine zW mixed ?_ ?_); exact kr) | ((with_reducible apply zK); exact rfl; exact tf) | ((with_reducible apply zCD); exact rfl) | ((with_reducible apply zCN); exact rfl) | ((with_reducible apply zC); exact rfl) | ((with_reducible refine zX ?_ ?_); exact rfl) | ((with_reducible refine zE (And.intro ?_ ?_)); exact kr) | (with_reducible refine zE ?_) | ((with_reducible apply zP); (first | exact o_indexI (j := k) (xs := dg m) rfl rfl (by omega) rfl | exact dp | exact oc rfl (a2))) | ((with_reducible apply zN); exact dn) | ((with_reducible apply zA); exact da) | ((with_reducible apply zS); exact ds) | ((with_reducible apply zY); exact rfl; exact rfl; exact tf) | ((with_reducible apply zG); exact rfl; exact rfl; exact tf) | ((with_reducible apply zU); exact rfl; exact rfl) | ((with_reducible apply zD); exact rfl; exact rfl) | ((with_reducible apply zB); exact rfl; exact rfl)))
        exact ⟨k + 1, 0, x :: (L ++ [nth (dg m) k - nth (dg n) k - (br : Int)]), ⟨⟨_, _, hJ'⟩, h0⟩, by omega, (And.intro rfl (And.intro rfl (And.intro (ownL_snoc 32 x L _) (And.intro (rfl) (And.intro (rfl) trivial))))), (And.intro (blkL_snoc _ x L _) trivial)⟩

end Go.Proofs.Ytgjhikjnlcbmkaa
