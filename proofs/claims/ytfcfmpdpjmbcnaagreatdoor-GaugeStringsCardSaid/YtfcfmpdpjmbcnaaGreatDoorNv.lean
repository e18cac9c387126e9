/- Numerals, and strings cut at a byte. Nothing of the program. -/
import Derived.Test.YtfcfmpdpjmbcnaaGreatDoorNt
import Derived.Lib.AtoiAll
import Derived.Lib.ItoaNum
import Derived.Lib.SplitLaws
set_option linter.unusedVariables false
set_option linter.unusedSimpArgs false
namespace Go.Proofs.YtfcfmpdpjmbcnaaGreatDoor
open Go.RowKit
set_option maxRecDepth 20000

/-- Is a byte a digit? -/
def digB (u : UInt8) : Bool := decide (48 ≤ u.toNat) && decide (u.toNat ≤ 57)
theorem digB_iff {u : UInt8} : digB u = true ↔ 48 ≤ u.toNat ∧ u.toNat ≤ 57 := by simp [digB]
/-- The number that digits spell behind n. -/
def valD (n : Nat) : List UInt8 → Nat
  | [] => n
  | u :: l => valD (10 * n + (u.toNat - 48)) l
theorem valD_append : ∀ (l r : List UInt8) (n : Nat), valD n (l ++ r) = valD (valD n l) r
  | [], _, _ => rfl
  | u :: l, r, n => valD_append l r _
theorem valD_ge : ∀ (l : List UInt8) (n : Nat), n ≤ valD n l
  | [], _ => Nat.le_refl _
  | u :: l, n => Nat.le_trans (by omega) (valD_ge l (10 * n + (u.toNat - 48)))
theorem valD_lt (l : List UInt8) : ∀ (n : Nat), (∀ x ∈ l, digB x = true) → valD n l < (n + 1) * 10 ^ l.length := by
  induction l with
  | nil =>
    intro n _
    rw [List.length_nil, Nat.pow_zero, Nat.mul_one]
    exact Nat.lt_succ_self n
  | cons u l ih =>
    intro n h
    have h1 := ih (10 * n + (u.toNat - 48)) fun x hx => h x (by simp [hx])
    have h2 := digB_iff.1 (h u (by simp))
    have h3 : 10 * n + (u.toNat - 48) + 1 ≤ 10 * (n + 1) := by omega
    rw [List.length_cons, Nat.pow_succ, Nat.mul_comm (10 ^ l.length) 10, ← Nat.mul_assoc, Nat.mul_comm (n + 1) 10]
    exact Nat.lt_of_lt_of_le h1 (Nat.mul_le_mul_right _ h3)
/-- The digits of a number; none of 0. -/
def dl (u : Nat) : List UInt8 := if h : u = 0 then [] else dl (u / 10) ++ [UInt8.ofNat (48 + u % 10)]
termination_by u
decreasing_by omega
theorem dl_zero : dl 0 = [] := by rw [dl, dif_pos rfl]
theorem dl_pos {u : Nat} (h : 0 < u) : dl u = dl (u / 10) ++ [UInt8.ofNat (48 + u % 10)] := by rw [dl, dif_neg (by omega)]
theorem dig_of {d : Nat} (h : d < 10) : (UInt8.ofNat (48 + d)).toNat = 48 + d := by
  rw [UInt8.toNat_ofNat']
  exact Nat.mod_eq_of_lt (by omega)
theorem dl_val (u : Nat) : valD 0 (dl u) = u := by
  induction u using Nat.strongRecOn with
  | ind u ih =>
    by_cases h : u = 0
    · subst h; rw [dl_zero]; rfl
    · rw [dl_pos (by omega), valD_append, ih (u / 10) (by omega)]
      show 10 * (u / 10) + ((UInt8.ofNat (48 + u % 10)).toNat - 48) = u
      rw [dig_of (by omega)]; omega
theorem dl_dig (u : Nat) : ∀ x ∈ dl u, digB x = true := by
  induction u using Nat.strongRecOn with
  | ind u ih =>
    intro x hx
    by_cases h : u = 0
    · subst h; rw [dl_zero] at hx; simp at hx
    · rw [dl_pos (by omega)] at hx
      rcases List.mem_append.1 hx with hx | hx
      · exact ih (u / 10) (by omega) x hx
      · rw [List.mem_singleton.1 hx, digB_iff, dig_of (by omega)]; omega
theorem dl_head (u : Nat) : 0 < u → ∃ x l, dl u = x :: l ∧ x.toNat ≠ 48 := by
  induction u using Nat.strongRecOn with
  | ind u ih =>
    intro h
    rw [dl_pos h]
    by_cases h1 : u / 10 = 0
    · rw [h1, dl_zero]
      exact ⟨_, [], rfl, by rw [dig_of (by omega)]; omega⟩
    · obtain ⟨x, l, e, hx⟩ := ih (u / 10) (by omega) (by omega)
      exact ⟨x, l ++ [UInt8.ofNat (48 + u % 10)], by rw [e]; rfl, hx⟩
theorem decDigits_dl (u : Nat) : 0 < u → Lib.decDigits u = dl u := by
  induction u using Nat.strongRecOn with
  | ind u ih =>
    intro h
    rw [Lib.decDigits, dl_pos h]
    by_cases h1 : u < 10
    · rw [dif_pos h1, show u / 10 = 0 by omega, dl_zero, show u % 10 = u by omega]; rfl
    · rw [dif_neg h1, ih (u / 10) (by omega) (by omega)]
theorem u8_ext {a b : UInt8} (h : a.toNat = b.toNat) : a = b := UInt8.toNat_inj.1 h
theorem dl_valD : ∀ (n : Nat) (ds : List UInt8), ds.length = n → (∀ x ∈ ds, digB x = true) → (∀ x l, ds = x :: l → x.toNat ≠ 48) → dl (valD 0 ds) = ds := by
  intro n
  induction n with
  | zero => intro ds hl _ _; rw [List.length_eq_zero_iff.1 hl]; exact dl_zero
  | succ n ih =>
    intro ds hl hd hh
    rcases List.eq_nil_or_concat ds with rfl | ⟨L, b, e⟩
    · simp at hl
    rw [List.concat_eq_append] at e
    subst e
    have hb := digB_iff.1 (hd b (by simp))
    have hL := ih L (by simpa using hl) (fun x hx => hd x (by simp [hx])) fun x l e => hh x (l ++ [b]) (by rw [e]; rfl)
    rw [valD_append]
    show dl (10 * valD 0 L + (b.toNat - 48)) = L ++ [b]
    generalize valD 0 L = a at hL
    have hpos : 0 < 10 * a + (b.toNat - 48) := by
      refine Nat.pos_of_ne_zero fun e => ?_
      obtain rfl : a = 0 := by omega
      rw [dl_zero] at hL
      subst hL
      exact hh b [] rfl (by omega)
    rw [dl_pos hpos, show (10 * a + (b.toNat - 48)) / 10 = a by omega, hL]
    congr 2
    refine u8_ext ?_
    rw [dig_of (by omega)]; omega
theorem parse_val : ∀ (l : List UInt8) (n : Nat), (∀ x ∈ l, digB x = true) → valD n l < 18446744073709551616 → Lib.parseUint10 n l = .ok (valD n l)
  | [], n, _, _ => rfl
  | c :: r, n, h, hv => by
    have hc := digB_iff.1 (h c (by simp))
    have hv : valD (10 * n + (c.toNat - 48)) r < 18446744073709551616 := hv
    have h1 := valD_ge r (10 * n + (c.toNat - 48))
    unfold Lib.parseUint10
    rw [if_pos hc, if_neg (by omega), if_neg (by omega), Nat.mul_comm n 10]
    exact parse_val r _ (fun x hx => h x (by simp [hx])) hv
theorem itoa_zero : Lib.itoa 0 = [48] := by unfold Lib.itoa; rw [if_neg (by decide), Lib.decDigits, dif_pos (by decide)]; rfl
theorem itoa_pos {v : Int} (h : 0 < v) : Lib.itoa v = dl v.toNat := by unfold Lib.itoa; rw [if_neg (by omega), decDigits_dl _ (by omega)]
theorem itoa_neg {v : Int} (h : v < 0) : Lib.itoa v = 45 :: dl v.natAbs := by unfold Lib.itoa; rw [if_pos h, decDigits_dl _ (by omega)]
theorem atoi_itoa {v : Int} (h : I64 v) : Lib.atoiAll (Lib.itoa v) = .ok v := by
  obtain ⟨h1, h2⟩ := h
  rcases Int.lt_trichotomy v 0 with hv | hv | hv
  · rw [itoa_neg hv]
    obtain ⟨x, l, e, _⟩ := dl_head v.natAbs (by omega)
    have hp := parse_val (dl v.natAbs) 0 (dl_dig _) (by rw [dl_val]; omega)
    rw [dl_val] at hp
    have hm : Lib.parseMag (dl v.natAbs) = .ok v.natAbs := by unfold Lib.parseMag; rw [if_neg (by rw [e]; simp), hp]
    unfold Lib.atoiAll
    have e45 : (45 : UInt8).toNat = 45 := rfl
    simp only [e45]
    rw [if_pos (by decide), hm]
    simp only
    rw [if_neg (by simp), if_neg (by simp; omega), if_pos trivial]
    congr 1; omega
  · subst hv; rw [itoa_zero]; rfl
  · rw [itoa_pos hv]
    obtain ⟨x, l, e, _⟩ := dl_head v.toNat (by omega)
    have hx := digB_iff.1 (dl_dig v.toNat x (by rw [e]; simp))
    have hp := parse_val (dl v.toNat) 0 (dl_dig _) (by rw [dl_val]; omega)
    rw [dl_val] at hp
    have hm : Lib.parseMag (dl v.toNat) = .ok v.toNat := by unfold Lib.parseMag; rw [if_neg (by rw [e]; simp), hp]
    rw [e] at hm ⊢
    unfold Lib.atoiAll
    simp only
    rw [if_neg (by omega), hm]
    simp only
    have hne : ¬ x.toNat = 45 := by omega
    rw [if_neg (by simp [hne]; omega), if_neg (by simp [hne]), if_neg hne]
    congr 1; omega

/-- What a number's numeral of at most so many digits spells; none: it is no numeral. -/
def numN (l : List UInt8) (D : Nat) : Option Int :=
  if l.head? = some 45 then
    (if l.length = 1 ∨ D < l.length - 1 ∨ l[1]? = some 48 then none else if (l.drop 1).all digB then some (-(valD 0 (l.drop 1) : Int)) else none)
  else (if l.length = 0 ∨ D < l.length ∨ (l[0]? = some 48 ∧ 1 < l.length) then none else if l.all digB then some (valD 0 l : Int) else none)
/-- A numeral without its sign. -/
def trimL (l : List UInt8) : List UInt8 := if l.head? = some 45 then l.drop 1 else l
theorem ne48 {x : UInt8} (h : x ≠ 48) : x.toNat ≠ 48 := fun e => h (u8_ext e)
theorem numN_itoa {l : List UInt8} {D : Nat} {v : Int} (hD : D ≤ 18) (h : numN l D = some v) : I64 v ∧ Lib.itoa v = l ∧ (trimL l).length ≤ D := by
  have hp : 10 ^ D ≤ 10 ^ 18 := Nat.pow_le_pow_right (by decide) hD
  have hp2 : (10 : Nat) ^ 18 = 1000000000000000000 := rfl
  unfold numN at h
  by_cases h1 : l.head? = some 45
  · rw [if_pos h1] at h
    unfold trimL
    rw [if_pos h1]
    obtain ⟨r, rfl⟩ : ∃ r, l = 45 :: r := by
      cases l with
      | nil => cases h1
      | cons c r => injection h1 with h1; exact ⟨r, by rw [h1]⟩
    simp only [List.length_cons, List.drop_succ_cons, List.drop_zero, List.getElem?_cons_succ] at h ⊢
    by_cases h2 : r.length + 1 = 1 ∨ D < r.length + 1 - 1 ∨ r[0]? = some 48
    · rw [if_pos h2] at h; cases h
    rw [if_neg h2] at h
    by_cases h3 : r.all digB = true
    · rw [if_pos h3] at h
      injection h with h
      have hd := List.all_eq_true.1 h3
      obtain ⟨c, t, rfl⟩ : ∃ c t, r = c :: t := by
        cases r with
        | nil => exact absurd (.inl rfl) h2
        | cons c t => exact ⟨c, t, rfl⟩
      have hc : c ≠ 48 := fun e => h2 (.inr (.inr (by rw [e]; rfl)))
      have hdl := dl_valD _ (c :: t) rfl hd fun x l e => by cases e; exact ne48 hc
      have hlt := valD_lt (c :: t) 0 hd
      have hle : 10 ^ (c :: t).length ≤ 10 ^ D := Nat.pow_le_pow_right (by decide) (by omega)
      have hpos : 0 < valD 0 (c :: t) := Nat.pos_of_ne_zero fun e => by rw [e, dl_zero] at hdl; cases hdl
      generalize valD 0 (c :: t) = u at *
      subst h
      refine ⟨⟨by omega, by omega⟩, ?_, by omega⟩
      rw [itoa_neg (by omega), show (-(u : Int)).natAbs = u by omega, hdl]
    · rw [if_neg h3] at h; cases h
  · rw [if_neg h1] at h
    unfold trimL
    rw [if_neg h1]
    by_cases h2 : l.length = 0 ∨ D < l.length ∨ (l[0]? = some 48 ∧ 1 < l.length)
    · rw [if_pos h2] at h; cases h
    rw [if_neg h2] at h
    by_cases h3 : l.all digB = true
    · rw [if_pos h3] at h
      injection h with h
      have hd := List.all_eq_true.1 h3
      obtain ⟨c, t, rfl⟩ : ∃ c t, l = c :: t := by
        cases l with
        | nil => exact absurd (.inl rfl) h2
        | cons c t => exact ⟨c, t, rfl⟩
      have hlt := valD_lt (c :: t) 0 hd
      have hle : 10 ^ (c :: t).length ≤ 10 ^ D := Nat.pow_le_pow_right (by decide) (by omega)
      by_cases hc : c = 48
      · subst hc
        have ht : t = [] := by
          cases t with
          | nil => rfl
          | cons x t => exact absurd (.inr (.inr ⟨rfl, by simp⟩)) h2
        subst ht
        have h : ((0 : Nat) : Int) = v := h
        subst h
        exact ⟨⟨by decide, by decide⟩, itoa_zero, by omega⟩
      · have hdl := dl_valD _ (c :: t) rfl hd fun x l e => by cases e; exact ne48 hc
        have hpos : 0 < valD 0 (c :: t) := Nat.pos_of_ne_zero fun e => by rw [e, dl_zero] at hdl; cases hdl
        generalize valD 0 (c :: t) = u at *
        subst h
        refine ⟨⟨by omega, by omega⟩, ?_, by omega⟩
        rw [itoa_pos (by omega), Int.toNat_natCast, hdl]
    · rw [if_neg h3] at h; cases h
theorem numN_of {D : Nat} {v : Int} (h : (trimL (Lib.itoa v)).length ≤ D) : numN (Lib.itoa v) D = some v := by
  rcases Int.lt_trichotomy v 0 with hv | hv | hv
  · obtain ⟨x, l, e, hx⟩ := dl_head v.natAbs (by omega)
    have hd := dl_dig v.natAbs
    have hval := dl_val v.natAbs
    rw [itoa_neg hv] at h ⊢
    unfold trimL at h
    unfold numN
    rw [if_pos (show (45 :: dl v.natAbs).head? = some 45 from rfl)] at h ⊢
    have h : (dl v.natAbs).length ≤ D := h
    simp only [List.length_cons, List.drop_succ_cons, List.drop_zero, List.getElem?_cons_succ]
    rw [e] at h hd hval ⊢
    have h2 : ¬ ((x :: l).length + 1 = 1 ∨ D < (x :: l).length + 1 - 1 ∨ (x :: l)[0]? = some 48) := by
      rintro (h3 | h3 | h3)
      · simp at h3
      · omega
      · injection h3 with h3; subst h3; exact hx rfl
    rw [if_neg h2, if_pos (List.all_eq_true.2 hd), hval]
    congr 1; omega
  · subst hv
    rw [itoa_zero] at h ⊢
    have h : 1 ≤ D := h
    unfold numN
    rw [if_neg (by decide), if_neg (by simp; omega), if_pos (by decide)]; rfl
  · obtain ⟨x, l, e, hx⟩ := dl_head v.toNat (by omega)
    have hd := dl_dig v.toNat
    have hval := dl_val v.toNat
    rw [itoa_pos hv] at h ⊢
    rw [e] at h hd hval ⊢
    have hx45 : ¬ (x :: l).head? = some 45 := fun e2 => by
      injection e2 with e2
      have := digB_iff.1 (hd x (by simp))
      rw [e2] at this
      exact absurd this.1 (by decide)
    unfold trimL at h
    unfold numN
    rw [if_neg hx45] at h ⊢
    have h2 : ¬ ((x :: l).length = 0 ∨ D < (x :: l).length ∨ ((x :: l)[0]? = some 48 ∧ 1 < (x :: l).length)) := by
      rintro (h3 | h3 | ⟨h3, _⟩)
      · simp at h3
      · omega
      · injection h3 with h3; subst h3; exact hx rfl
    rw [if_neg h2, if_pos (List.all_eq_true.2 hd), hval]
    congr 1; omega
theorem itoa_len {v : Int} (h : I64 v) : (Lib.itoa v).length ≤ 20 ∧ 1 ≤ (Lib.itoa v).length := by
  have key : ∀ (k u : Nat), u < 10 ^ k → (dl u).length ≤ k := fun k => by
    induction k with
    | zero => intro u hu; obtain rfl : u = 0 := by omega
              rw [dl_zero]; exact Nat.le_refl _
    | succ k ih =>
      intro u hu
      by_cases h0 : u = 0
      · subst h0; rw [dl_zero]; exact Nat.zero_le _
      · rw [dl_pos (by omega), List.length_append, List.length_singleton]
        have := ih (u / 10) (by rw [Nat.pow_succ] at hu; omega)
        omega
  have h19 : (10 : Nat) ^ 19 = 10000000000000000000 := rfl
  obtain ⟨h1, h2⟩ := h
  rcases Int.lt_trichotomy v 0 with hv | hv | hv
  · rw [itoa_neg hv, List.length_cons]
    have := key 19 v.natAbs (by omega)
    omega
  · subst hv; rw [itoa_zero]; decide
  · rw [itoa_pos hv]
    have := key 19 v.toNat (by omega)
    obtain ⟨x, l, e, _⟩ := dl_head v.toNat (by omega)
    rw [e] at this ⊢
    simp at this ⊢
    omega
/-- The bytes of a numeral are digits or its sign. -/
theorem itoa_byte {v : Int} : ∀ x ∈ Lib.itoa v, digB x = true ∨ x = 45 := fun x hx => by
  rcases Int.lt_trichotomy v 0 with hv | hv | hv
  · rw [itoa_neg hv] at hx
    rcases List.mem_cons.1 hx with h | h
    · exact .inr h
    · exact .inl (dl_dig _ x h)
  · subst hv; rw [itoa_zero] at hx; rw [List.mem_singleton.1 hx]; exact .inl (by decide)
  · rw [itoa_pos hv] at hx; exact .inl (dl_dig _ x hx)

/-- A string cut at a byte, behind a piece that is begun. -/
def cutA (c : UInt8) : List UInt8 → List UInt8 → List (List UInt8)
  | cur, [] => [cur]
  | cur, x :: l => bif x == c then cur :: cutA c [] l else cutA c (cur ++ [x]) l
theorem cutA_hit (c : UInt8) (cur l : List UInt8) : cutA c cur (c :: l) = cur :: cutA c [] l := by
  show (bif c == c then _ else _) = _
  rw [beq_self_eq_true]; rfl
theorem cutA_miss {c x : UInt8} (h : x ≠ c) (cur l : List UInt8) : cutA c cur (x :: l) = cutA c (cur ++ [x]) l := by
  show (bif x == c then _ else _) = _
  rw [beq_eq_false_iff_ne.2 h]; rfl
theorem idx_hit (c : UInt8) (l : List UInt8) : Lib.index (c :: l) [c] = 0 := by
  unfold Lib.index
  rw [if_pos (by simp)]
theorem idx_miss {c x : UInt8} (h : x ≠ c) (l : List UInt8) : Lib.index (x :: l) [c] = if Lib.index l [c] == -1 then -1 else Lib.index l [c] + 1 := by
  rw [Lib.index, if_neg (by simp [Ne.symm h])]
theorem cutA_idx (c : UInt8) : ∀ (l cur : List UInt8), (Lib.index l [c] = -1 ∧ cutA c cur l = [cur ++ l]) ∨ ∃ i : Nat, Lib.index l [c] = i ∧ i < l.length ∧ cutA c cur l = (cur ++ l.take i) :: cutA c [] (l.drop (i + 1))
  | [], cur => .inl ⟨rfl, by rw [List.append_nil]; rfl⟩
  | x :: l, cur => by
    by_cases hx : x = c
    · subst hx
      exact .inr ⟨0, idx_hit x l, by simp, by rw [cutA_hit, List.take_zero, List.append_nil]; rfl⟩
    · rw [idx_miss hx, cutA_miss hx]
      rcases cutA_idx c l (cur ++ [x]) with ⟨h1, h2⟩ | ⟨i, h1, h2, h3⟩
      · refine .inl ⟨by rw [h1]; rfl, ?_⟩
        rw [h2, List.append_assoc]; rfl
      · refine .inr ⟨i + 1, ?_, by simp; omega, ?_⟩
        · rw [h1, if_neg (fun e => by have := beq_iff_eq.1 e; omega)]; omega
        · rw [h3, List.append_assoc]; rfl
theorem splitK_cut (c : UInt8) : ∀ (n : Nat) (l : List UInt8), l.length ≤ n → Lib.splitK [c] 0 (Lib.count l [c]) l = cutA c [] l := by
  intro n
  induction n with
  | zero =>
    intro l hl
    obtain rfl : l = [] := List.length_eq_zero_iff.1 (by omega)
    have h : Lib.index [] [c] = -1 := rfl
    rw [Lib.count_miss h]; rfl
  | succ n ih =>
    intro l hl
    rcases cutA_idx c l [] with ⟨h1, h2⟩ | ⟨i, h1, h2, h3⟩
    · rw [Lib.count_miss h1, h2]; rfl
    · have hne : ¬ (Lib.index l [c] == -1) = true := fun e => by have := beq_iff_eq.1 e; omega
      rw [Lib.count_hit (by simp) h1, Nat.add_comm, Lib.splitK, if_neg hne, h1, h3]
      show l.take (i + 0) :: _ = _
      rw [Nat.add_zero, List.nil_append]
      congr 1
      have e : ((i : Nat) : Int).toNat + [c].length = i + 1 := by rw [Int.toNat_natCast]; rfl
      rw [e]
      exact ih (l.drop (i + 1)) (by rw [List.length_drop]; omega)
theorem cutA_len (c : UInt8) : ∀ (l cur : List UInt8), (cutA c cur l).length ≤ l.length + 1
  | [], _ => Nat.le_refl _
  | x :: l, cur => by
    by_cases hx : x = c
    · subst hx
      rw [cutA_hit, List.length_cons, List.length_cons]
      exact Nat.succ_le_succ (cutA_len x l [])
    · rw [cutA_miss hx, List.length_cons]
      exact Nat.le_succ_of_le (cutA_len c l _)
theorem cutA_mem (c : UInt8) : ∀ (l cur : List UInt8), ∀ p ∈ cutA c cur l, p.length ≤ cur.length + l.length
  | [], cur, p, h => by
    have h : p ∈ [cur] := h
    rw [List.mem_singleton.1 h]; exact Nat.le_refl _
  | x :: l, cur, p, h => by
    by_cases hx : x = c
    · subst hx
      rw [cutA_hit] at h
      rcases List.mem_cons.1 h with rfl | h
      · omega
      · have := cutA_mem x l [] p h
        simp at this ⊢; omega
    · rw [cutA_miss hx] at h
      have := cutA_mem c l _ p h
      simp at this ⊢; omega
theorem cutA_pos (c : UInt8) : ∀ (l cur : List UInt8), 0 < (cutA c cur l).length
  | [], _ => Nat.zero_lt_one
  | x :: l, cur => by
    by_cases hx : x = c
    · subst hx; rw [cutA_hit]; simp
    · rw [cutA_miss hx]; exact cutA_pos c l _
/-- Pieces without the byte, joined with it, are cut again. -/
theorem cutA_piece {c : UInt8} : ∀ (p cur l : List UInt8), (∀ x ∈ p, x ≠ c) → cutA c cur (p ++ c :: l) = (cur ++ p) :: cutA c [] l
  | [], cur, l, _ => by rw [List.nil_append, cutA_hit, List.append_nil]
  | x :: p, cur, l, h => by
    rw [List.cons_append, cutA_miss (h x (by simp)), cutA_piece p _ l fun y hy => h y (by simp [hy]), List.append_assoc]; rfl
theorem cutA_last {c : UInt8} : ∀ (p cur : List UInt8), (∀ x ∈ p, x ≠ c) → cutA c cur p = [cur ++ p]
  | [], cur, _ => by rw [List.append_nil]; rfl
  | x :: p, cur, h => by
    rw [cutA_miss (h x (by simp)), cutA_last p _ fun y hy => h y (by simp [hy]), List.append_assoc]; rfl

end Go.Proofs.YtfcfmpdpjmbcnaaGreatDoor
