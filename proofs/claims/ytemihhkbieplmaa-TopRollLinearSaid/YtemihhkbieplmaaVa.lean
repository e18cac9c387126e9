/- Digits to the base 10^9. Nothing of the program. -/
import Derived.Test.YtemihhkbieplmaaMj
set_option linter.unusedVariables false
set_option linter.unusedSimpArgs false
namespace Go.Proofs.Ytemihhkbieplmaa

def wval : List Int → Int
  | [] => 0
  | d :: l => d + (1000000000 : Int) * wval l
def WDg (l : List Int) : Prop := ∀ d ∈ l, 0 ≤ d ∧ d < (1000000000 : Int)
theorem WDg.nil : WDg [] := fun d h => by simp at h
theorem WDg.cons {d : Int} {l : List Int} (h1 : 0 ≤ d ∧ d < (1000000000 : Int)) (h2 : WDg l) : WDg (d :: l) := fun x hx => by
  rcases List.mem_cons.1 hx with rfl | hx
  · exact h1
  · exact h2 x hx
theorem WDg.hd {d : Int} {l : List Int} (h : WDg (d :: l)) : 0 ≤ d ∧ d < (1000000000 : Int) := h d List.mem_cons_self
theorem WDg.tl {d : Int} {l : List Int} (h : WDg (d :: l)) : WDg l := fun x hx => h x (List.mem_cons_of_mem _ hx)
theorem WDg.app {a b : List Int} (h1 : WDg a) (h2 : WDg b) : WDg (a ++ b) := fun x hx => (List.mem_append.1 hx).elim (h1 x) (h2 x)
theorem WDg.take {l : List Int} (h : WDg l) (n : Nat) : WDg (l.take n) := fun x hx => h x (List.mem_of_mem_take hx)
theorem WDg.drop {l : List Int} (h : WDg l) (n : Nat) : WDg (l.drop n) := fun x hx => h x (List.mem_of_mem_drop hx)
theorem WDg.nth {l : List Int} (h : WDg l) (k : Nat) : 0 ≤ nth l k ∧ nth l k < (1000000000 : Int) := by
  unfold Go.Proofs.Ytemihhkbieplmaa.nth
  by_cases hk : k < l.length
  · rw [List.getD_eq_getElem?_getD, List.getElem?_eq_getElem hk]; exact h _ (List.getElem_mem hk)
  · rw [List.getD_eq_getElem?_getD, List.getElem?_eq_none (by omega)]; decide
theorem wpow_pos (n : Nat) : 0 < (1000000000 : Int) ^ n := Int.pow_pos (by decide)
theorem wpow_succ (n : Nat) : (1000000000 : Int) ^ (n + 1) = (1000000000 : Int) * (1000000000 : Int) ^ n := by rw [Int.pow_succ, Int.mul_comm]
theorem wval_app : ∀ (a b : List Int), wval (a ++ b) = wval a + (1000000000 : Int) ^ a.length * wval b
  | [], b => by show wval b = 0 + (1000000000 : Int) ^ 0 * wval b; simp
  | d :: a, b => by
    show d + (1000000000 : Int) * wval (a ++ b) = d + (1000000000 : Int) * wval a + (1000000000 : Int) ^ (a.length + 1) * wval b
    rw [wval_app a b, wpow_succ, Int.mul_add, Int.mul_assoc, Int.add_assoc]
theorem wval_snoc (a : List Int) (d : Int) : wval (a ++ [d]) = wval a + (1000000000 : Int) ^ a.length * d := by
  rw [wval_app]; show _ + _ * (d + (1000000000 : Int) * 0) = _; simp
theorem wval_nn : ∀ {l : List Int}, WDg l → 0 ≤ wval l
  | [], _ => Int.le_refl _
  | d :: l, h => by
    have h1 := wval_nn h.tl
    have h2 := h.hd
    show 0 ≤ d + (1000000000 : Int) * wval l
    omega
theorem wval_lt : ∀ {l : List Int}, WDg l → wval l < (1000000000 : Int) ^ l.length
  | [], _ => by show (0 : Int) < (1000000000 : Int) ^ 0; simp
  | d :: l, h => by
    have h1 := wval_lt h.tl
    have h2 := h.hd
    show d + (1000000000 : Int) * wval l < (1000000000 : Int) ^ (l.length + 1)
    rw [wpow_succ]
    omega
theorem wval_take_drop (l : List Int) (k : Nat) (hk : k ≤ l.length) : wval l = wval (l.take k) + (1000000000 : Int) ^ k * wval (l.drop k) := by
  have h := wval_app (l.take k) (l.drop k)
  rwa [List.take_append_drop, List.length_take, Nat.min_eq_left hk] at h
theorem wval_zeros : ∀ {l : List Int}, (∀ d ∈ l, d = 0) → wval l = 0
  | [], _ => rfl
  | d :: l, h => by
    show d + (1000000000 : Int) * wval l = 0
    rw [wval_zeros fun x hx => h x (List.mem_cons_of_mem _ hx), h d List.mem_cons_self]; rfl
/-- The digits of a number. -/
def dg (n : Nat) : List Int := if h : n = 0 then [] else ((n % 1000000000 : Nat) : Int) :: dg (n / 1000000000)
termination_by n
decreasing_by exact Nat.div_lt_self (Nat.pos_of_ne_zero h) (by decide)
theorem dg_zero : dg 0 = [] := by rw [dg]; rfl
theorem dg_pos {n : Nat} (h : n ≠ 0) : dg n = ((n % 1000000000 : Nat) : Int) :: dg (n / 1000000000) := by rw [dg, dif_neg h]
theorem dg_ind {P : Nat → Prop} (h0 : P 0) (hs : ∀ n, n ≠ 0 → P (n / 1000000000) → P n) (n : Nat) : P n := by
  induction n using Nat.strongRecOn with
  | ind n ih =>
    by_cases h : n = 0
    · subst h; exact h0
    · exact hs n h (ih _ (Nat.div_lt_self (Nat.pos_of_ne_zero h) (by decide)))
theorem dg_val (n : Nat) : wval (dg n) = n := by
  refine dg_ind (P := fun n => wval (dg n) = n) (by rw [dg_zero]; rfl) (fun n h ih => ?_) n
  rw [dg_pos h]
  show ((n % 1000000000 : Nat) : Int) + (1000000000 : Int) * wval (dg (n / 1000000000)) = n
  rw [ih]
  have := Nat.mod_add_div n 1000000000
  omega
theorem dg_WDg (n : Nat) : WDg (dg n) := by
  refine dg_ind (P := fun n => WDg (dg n)) (by rw [dg_zero]; exact .nil) (fun n h ih => ?_) n
  rw [dg_pos h]
  exact .cons ⟨by omega, by show _ < (1000000000 : Int); omega⟩ ih
theorem dg_ne {n : Nat} (h : n ≠ 0) : dg n ≠ [] := by rw [dg_pos h]; simp
theorem dg_nil {n : Nat} : dg n = [] ↔ n = 0 := ⟨fun h => Decidable.byContradiction fun h2 => dg_ne h2 h, fun h => by rw [h, dg_zero]⟩
theorem dg_len0 {n : Nat} : (dg n).length = 0 ↔ n = 0 := by rw [List.length_eq_zero_iff, dg_nil]
theorem dg_last (n : Nat) : n ≠ 0 → nth (dg n) ((dg n).length - 1) ≠ 0 := by
  refine dg_ind (P := fun n => n ≠ 0 → nth (dg n) ((dg n).length - 1) ≠ 0) (fun h => absurd rfl h) (fun n h ih _ => ?_) n
  rw [dg_pos h]
  by_cases h2 : n / 1000000000 = 0
  · rw [h2, dg_zero]
    show ((n % 1000000000 : Nat) : Int) ≠ 0
    omega
  · have h3 := ih h2
    have h4 : (dg (n / 1000000000)).length ≠ 0 := fun e => h2 (dg_len0.1 e)
    rw [List.length_cons]
    have e : (dg (n / 1000000000)).length + 1 - 1 = ((dg (n / 1000000000)).length - 1) + 1 := by omega
    rw [e]
    exact h3
theorem wval_pos_last : ∀ {l : List Int}, WDg l → l ≠ [] → nth l (l.length - 1) ≠ 0 → 0 < wval l
  | [], _, h, _ => absurd rfl h
  | [d], h, _, h2 => by
    have := h.hd
    have h2 : d ≠ 0 := h2
    show 0 < d + (1000000000 : Int) * 0
    omega
  | d :: e :: l, h, _, h2 => by
    have h3 := wval_pos_last h.tl (by simp) h2
    have := h.hd
    show 0 < d + (1000000000 : Int) * wval (e :: l)
    omega
theorem dg_uniq : ∀ {l : List Int} (n : Nat), WDg l → (l ≠ [] → nth l (l.length - 1) ≠ 0) → wval l = n → l = dg n
  | [], n, _, _, h => by
    have h : (0 : Int) = n := h
    rw [show n = 0 by omega, dg_zero]
  | d :: l, n, h1, h2, h3 => by
    have h4 := h1.hd
    have hl := h2 (by simp)
    have hpos := wval_pos_last h1 (by simp) hl
    have hnn := wval_nn h1.tl
    have h3 : d + (1000000000 : Int) * wval l = n := h3
    have hn : n ≠ 0 := fun e => by subst e; have : wval (d :: l) = d + (1000000000 : Int) * wval l := rfl; omega
    rw [dg_pos hn]
    have e1 : ((n % 1000000000 : Nat) : Int) = d := by omega
    have e2 : wval l = ((n / 1000000000 : Nat) : Int) := by omega
    rw [e1, ← dg_uniq (n / 1000000000) h1.tl (fun hne => ?_) e2]
    rcases l with _ | ⟨x, l⟩
    · exact absurd rfl hne
    · exact hl
/-- The digits of a list that has zeros at its end. -/
theorem dg_trim {l : List Int} {k : Nat} (hk : k ≤ l.length) (h : WDg l) (h1 : k = 0 ∨ nth l (k - 1) ≠ 0) (h2 : ∀ d ∈ l.drop k, d = 0) : l.take k = dg (wval l).toNat := by
  have e := wval_take_drop l k hk
  rw [wval_zeros h2] at e
  have h3 := wval_nn h
  refine dg_uniq _ (h.take k) (fun hne => ?_) (by omega)
  rw [List.length_take, Nat.min_eq_left hk]
  rcases h1 with h1 | h1
  · subst h1; exact absurd rfl hne
  · have : nth (l.take k) (k - 1) = nth l (k - 1) := by
      have hk0 : k ≠ 0 := fun e => by subst e; exact hne rfl
      unfold nth
      rw [List.getD_eq_getElem?_getD, List.getD_eq_getElem?_getD, List.getElem?_take_of_lt (by omega)]
    rwa [this]
theorem dg_self {l : List Int} (h : WDg l) (h1 : l ≠ [] → nth l (l.length - 1) ≠ 0) : l = dg (wval l).toNat := dg_uniq _ h h1 (by have := wval_nn h; omega)
theorem dg_lower (n : Nat) (h : n ≠ 0) : (1000000000 : Int) ^ ((dg n).length - 1) ≤ n := by
  have hd := dg_WDg n
  have hl := dg_last n h
  have hlen : (dg n).length ≠ 0 := fun e => h (dg_len0.1 e)
  have e := wval_take_drop (dg n) ((dg n).length - 1) (by omega)
  rw [dg_val] at e
  have h1 := wval_nn (hd.take ((dg n).length - 1))
  have h2 : (dg n).drop ((dg n).length - 1) = [nth (dg n) ((dg n).length - 1)] := by
    rw [drop_getD (by omega), List.drop_of_length_le (by omega)]
  rw [h2] at e
  have h3 : wval [nth (dg n) ((dg n).length - 1)] = nth (dg n) ((dg n).length - 1) := by show _ + (1000000000 : Int) * 0 = _; simp
  rw [h3] at e
  have h4 := hd.nth ((dg n).length - 1)
  have h5 : (1000000000 : Int) ^ ((dg n).length - 1) * 1 ≤ (1000000000 : Int) ^ ((dg n).length - 1) * nth (dg n) ((dg n).length - 1) := Int.mul_le_mul_of_nonneg_left (by omega) (Int.le_of_lt (wpow_pos _))
  omega
theorem dg_upper (n : Nat) : (n : Int) < (1000000000 : Int) ^ (dg n).length := by
  have := wval_lt (dg_WDg n)
  rwa [dg_val] at this
theorem wpow_le {a b : Nat} (h : a ≤ b) : (1000000000 : Int) ^ a ≤ (1000000000 : Int) ^ b := by
  obtain ⟨c, rfl⟩ := Nat.le.dest h
  rw [Int.pow_add]
  have h1 := wpow_pos a
  have h2 := wpow_pos c
  have h3 : (1000000000 : Int) ^ a * 1 ≤ (1000000000 : Int) ^ a * (1000000000 : Int) ^ c := Int.mul_le_mul_of_nonneg_left (by omega) (Int.le_of_lt h1)
  omega
/-- How many digits a number has. -/
theorem dg_len_le {n k : Nat} (h : (n : Int) < (1000000000 : Int) ^ k) : (dg n).length ≤ k := by
  by_cases hn : n = 0
  · subst hn; rw [dg_zero]; exact Nat.zero_le _
  · have h1 := dg_lower n hn
    refine Decidable.byContradiction fun h2 => ?_
    have h3 := wpow_le (a := k) (b := (dg n).length - 1) (by omega)
    omega
theorem dg_lt_of_len {m n : Nat} (h : (dg m).length < (dg n).length) : m < n := by
  have h1 := dg_upper m
  have h2 := dg_lower n (fun e => by rw [e, dg_zero] at h; simp at h)
  have h3 := wpow_le (a := (dg m).length) (b := (dg n).length - 1) (by omega)
  omega
/-- Comparing from the top. -/
theorem wval_cmp {a b : List Int} (hl : a.length = b.length) (ha : WDg a) (hb : WDg b) {k : Nat} (hk : k < a.length) (he : a.drop (k + 1) = b.drop (k + 1)) (hlt : nth a k < nth b k) : wval a < wval b := by
  have e1 := wval_take_drop a k (by omega)
  have e2 := wval_take_drop b k (by omega)
  rw [drop_getD hk] at e1
  rw [drop_getD (by omega), ← he] at e2
  have e1 : wval a = wval (a.take k) + (1000000000 : Int) ^ k * (nth a k + (1000000000 : Int) * wval (a.drop (k + 1))) := e1
  have e2 : wval b = wval (b.take k) + (1000000000 : Int) ^ k * (nth b k + (1000000000 : Int) * wval (a.drop (k + 1))) := e2
  have h1 := wval_lt (ha.take k)
  have h2 := wval_nn (hb.take k)
  rw [List.length_take, Nat.min_eq_left (by omega)] at h1
  have h3 : (1000000000 : Int) ^ k * (nth a k + (1000000000 : Int) * wval (a.drop (k + 1)) + 1) ≤ (1000000000 : Int) ^ k * (nth b k + (1000000000 : Int) * wval (a.drop (k + 1))) := Int.mul_le_mul_of_nonneg_left (by omega) (Int.le_of_lt (wpow_pos _))
  rw [Int.mul_add, Int.mul_one] at h3
  omega
theorem dg_zero_iff {l : List Int} (h : WDg l) : wval l = 0 ↔ ∀ d ∈ l, d = 0 := by
  refine ⟨fun h0 => ?_, wval_zeros⟩
  induction l with
  | nil => intro d hd; simp at hd
  | cons x l ih =>
    have h1 := h.hd
    have h2 := wval_nn h.tl
    have h0 : x + (1000000000 : Int) * wval l = 0 := h0
    intro d hd
    rcases List.mem_cons.1 hd with rfl | hd
    · omega
    · exact ih h.tl (by omega) d hd

end Go.Proofs.Ytemihhkbieplmaa
