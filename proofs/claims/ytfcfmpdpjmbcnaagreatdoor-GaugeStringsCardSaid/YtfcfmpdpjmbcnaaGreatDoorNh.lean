/- Merged: XNp XNj. -/
import Derived.Test.YtfcfmpdpjmbcnaaGreatDoorNv
import Derived.Lib.Join
import Derived.Lib.Strings
set_option linter.unusedVariables false
set_option linter.unusedSimpArgs false
/- Lists of numbers as strings: cut, spelled, and read again. Nothing of the program. -/
namespace Go.Proofs.YtfcfmpdpjmbcnaaGreatDoor
open Go.RowKit
set_option maxRecDepth 20000

/-- Pieces joined by a byte that none has are cut again as they were. -/
theorem cutA_join {c : UInt8} : ∀ (r : List (List UInt8)) (w : List UInt8), (∀ x ∈ w, x ≠ c) → (∀ p ∈ r, ∀ x ∈ p, x ≠ c) → cutA c [] (Lib.join (w :: r) [c]) = w :: r
  | [], w, h, _ => by
    rw [Lib.join_one, cutA_last _ _ h, List.nil_append]
  | v :: r, w, h, hr => by
    have h1 : Lib.join (w :: v :: r) [c] = w ++ c :: Lib.join (v :: r) [c] := by
      rw [Lib.join_cons, Lib.join_cons]
      unfold Lib.joinTail
      simp
    rw [h1, cutA_piece _ _ _ h, cutA_join r v (hr v List.mem_cons_self) fun p hp => hr p (List.mem_cons_of_mem _ hp), List.nil_append]
/-- The string of a list of numbers. -/
def fmtL (l : List Int) : List UInt8 := Lib.join (l.map Lib.itoa) [32]
/-- The number of a piece: with a sign only where that is allowed. -/
def numS (sg : Bool) (D : Nat) (w : List UInt8) : Option Int := if !sg && decide (w.head? = some 45) then none else numN w D
/-- The numbers of pieces. -/
def numsL (sg : Bool) (D : Nat) : List (List UInt8) → Option (List Int)
  | [] => some []
  | w :: r => match numS sg D w with
    | none => none
    | some v => match numsL sg D r with
      | none => none
      | some l => some (v :: l)
/-- The numbers of a string. -/
def parL (sg : Bool) (D : Nat) (s : List UInt8) : Option (List Int) := numsL sg D (cutA 32 [] s)
theorem numsL_snoc (sg : Bool) (D : Nat) (w : List UInt8) : ∀ (r : List (List UInt8)) (l : List Int), numsL sg D r = some l → numsL sg D (r ++ [w]) = (numS sg D w).map fun v => l ++ [v]
  | [], l, h => by
    injection h with h
    subst h
    show (match numS sg D w with | none => none | some v => match numsL sg D [] with | none => none | some l => some (v :: l)) = _
    cases numS sg D w <;> rfl
  | p :: r, l, h => by
    have e (r : List (List UInt8)) : numsL sg D (p :: r) = match numS sg D p with | none => none | some v => match numsL sg D r with | none => none | some l => some (v :: l) := rfl
    rw [e] at h
    rw [List.cons_append, e]
    cases hp : numS sg D p with
    | none => rw [hp] at h; cases h
    | some v =>
      rw [hp] at h
      cases hr : numsL sg D r with
      | none => rw [hr] at h; cases h
      | some k =>
        rw [hr] at h
        injection h with h
        subst h
        rw [numsL_snoc sg D w r k hr]
        cases numS sg D w <;> rfl
/-- A piece that is no number, somewhere: none. -/
theorem numsL_none (sg : Bool) (D : Nat) : ∀ (r : List (List UInt8)) (w : List UInt8), w ∈ r → numS sg D w = none → numsL sg D r = none
  | p :: r, w, h, hw => by
    have e : numsL sg D (p :: r) = match numS sg D p with | none => none | some v => match numsL sg D r with | none => none | some l => some (v :: l) := rfl
    rw [e]
    rcases List.mem_cons.1 h with rfl | h
    · rw [hw]
    · rw [numsL_none sg D r w h hw]
      cases numS sg D p <;> rfl
theorem numsL_len (sg : Bool) (D : Nat) : ∀ (r : List (List UInt8)) (l : List Int), numsL sg D r = some l → l.length = r.length
  | [], l, h => by injection h with h; subst h; rfl
  | p :: r, l, h => by
    have e : numsL sg D (p :: r) = match numS sg D p with | none => none | some v => match numsL sg D r with | none => none | some l => some (v :: l) := rfl
    rw [e] at h
    cases hp : numS sg D p with
    | none => rw [hp] at h; cases h
    | some v =>
      rw [hp] at h
      cases hr : numsL sg D r with
      | none => rw [hr] at h; cases h
      | some k =>
        rw [hr] at h
        injection h with h
        subst h
        simp [numsL_len sg D r k hr]
theorem dl_short : ∀ (k u : Nat), u < 10 ^ k → (dl u).length ≤ k
  | 0, u, hu => by
    obtain rfl : u = 0 := by omega
    rw [dl_zero]; exact Nat.le_refl _
  | k + 1, u, hu => by
    by_cases h0 : u = 0
    · subst h0; rw [dl_zero]; exact Nat.zero_le _
    · rw [dl_pos (by omega), List.length_append, List.length_singleton]
      have := dl_short k (u / 10) (by rw [Nat.pow_succ] at hu; omega)
      omega
theorem head_dl {u : Nat} : (dl u).head? ≠ some 45 := fun e => by
  cases hd : dl u with
  | nil => rw [hd] at e; cases e
  | cons x l =>
    rw [hd] at e
    injection e with e
    have := digB_iff.1 (dl_dig u x (by rw [hd]; simp))
    rw [e] at this
    exact absurd this.1 (by decide)
/-- What a number of at most D digits spells is read again. -/
theorem numS_itoa {sg : Bool} {D : Nat} {v : Int} (hD : 0 < D) (h : v.natAbs < 10 ^ D) (hs : sg = true ∨ 0 ≤ v) : numS sg D (Lib.itoa v) = some v := by
  have hh : 0 ≤ v → (Lib.itoa v).head? ≠ some 45 := fun h0 e => by
    by_cases hv : v = 0
    · subst hv; rw [itoa_zero] at e; exact absurd e (by decide)
    · rw [itoa_pos (by omega)] at e
      exact head_dl e
  have ht : (trimL (Lib.itoa v)).length ≤ D := by
    unfold trimL
    by_cases h0 : 0 ≤ v
    · rw [if_neg (hh h0)]
      by_cases hv : v = 0
      · subst hv; rw [itoa_zero]; exact hD
      · rw [itoa_pos (by omega)]
        exact dl_short D _ (by rwa [show v.natAbs = v.toNat by omega] at h)
    · rw [itoa_neg (by omega), if_pos (show (45 :: dl v.natAbs).head? = some 45 from rfl)]
      exact dl_short D _ h
  have e : (!sg && decide ((Lib.itoa v).head? = some 45)) = false := by
    rcases hs with rfl | h0
    · rfl
    · rw [decide_eq_false (hh h0), Bool.and_false]
  unfold numS
  rw [e]
  exact numN_of ht
theorem numsL_itoa {sg : Bool} {D : Nat} (hD : 0 < D) : ∀ (l : List Int), (∀ v ∈ l, v.natAbs < 10 ^ D ∧ (sg = true ∨ 0 ≤ v)) → numsL sg D (l.map Lib.itoa) = some l
  | [], _ => rfl
  | v :: l, h => by
    have e : numsL sg D (Lib.itoa v :: l.map Lib.itoa) = match numS sg D (Lib.itoa v) with | none => none | some v => match numsL sg D (l.map Lib.itoa) with | none => none | some l => some (v :: l) := rfl
    obtain ⟨h1, h2⟩ := h v List.mem_cons_self
    rw [List.map_cons, e, numS_itoa hD h1 h2, numsL_itoa hD l fun x hx => h x (List.mem_cons_of_mem _ hx)]
theorem itoa_no {c : UInt8} (hc : digB c = false) (h45 : c ≠ 45) {v : Int} : ∀ x ∈ Lib.itoa v, x ≠ c := fun x hx e => by
  subst e
  rcases itoa_byte x hx with h | h
  · rw [h] at hc; cases hc
  · exact h45 h
/-- A list of numbers of at most D digits is read again. -/
theorem parL_fmt {sg : Bool} {D : Nat} (hD : 0 < D) {l : List Int} (hl : l ≠ []) (h : ∀ v ∈ l, v.natAbs < 10 ^ D ∧ (sg = true ∨ 0 ≤ v)) : parL sg D (fmtL l) = some l := by
  cases l with
  | nil => exact absurd rfl hl
  | cons v l =>
    unfold parL fmtL
    rw [List.map_cons, cutA_join _ _ (itoa_no (by decide) (by decide)) fun p hp => by
      obtain ⟨u, _, rfl⟩ := List.mem_map.1 hp
      exact itoa_no (by decide) (by decide)]
    exact numsL_itoa hD (v :: l) h
/-- No semicolon in the string of a list. -/
theorem fmtL_no {c : UInt8} (hc : digB c = false) (h45 : c ≠ 45) (h32 : c ≠ 32) : ∀ (l : List Int), ∀ x ∈ fmtL l, x ≠ c := by
  intro l
  cases l with
  | nil => intro x hx; cases hx
  | cons v l =>
    unfold fmtL
    rw [List.map_cons, Lib.join_cons]
    unfold Lib.joinTail
    intro x hx
    rcases List.mem_append.1 hx with h | h
    · exact itoa_no hc h45 x h
    · obtain ⟨p, hp, hx⟩ := List.mem_flatten.1 h
      obtain ⟨q, hq, rfl⟩ := List.mem_map.1 hp
      obtain ⟨u, _, rfl⟩ := List.mem_map.1 hq
      rcases List.mem_append.1 hx with h | h
      · rw [List.mem_singleton.1 h]
        exact fun e => h32 e.symm
      · exact itoa_no hc h45 x h

end Go.Proofs.YtfcfmpdpjmbcnaaGreatDoor

/- A piece's number, as the package tests it. Nothing of the program. -/
namespace Go.Proofs.YtfcfmpdpjmbcnaaGreatDoor
open Go.RowKit
set_option maxRecDepth 20000

theorem trimP (l : List UInt8) : Lib.trimPrefix l [45] = trimL l := by
  unfold Lib.trimPrefix trimL
  cases l with
  | nil => rfl
  | cons x l =>
    by_cases h : x = 45
    · subst h; rfl
    · have h1 : Lib.hasPrefix (x :: l) [45] = false := by
        unfold Lib.hasPrefix
        simp [List.isPrefixOf, h, Ne.symm h]
        try exact fun e => h e.symm
      rw [h1]
      have h2 : ¬ (x :: l).head? = some 45 := fun e => h (Option.some.inj e)
      rw [if_neg h2]; rfl
/-- The numeral of a number that is not negative has no sign; of one that is, it has. -/
theorem sign_itoa (v : Int) : (Lib.itoa v).head? = some 45 ↔ v < 0 := by
  constructor
  · intro h
    refine Int.not_le.1 fun h0 => ?_
    by_cases hv : v = 0
    · subst hv; rw [itoa_zero] at h; exact absurd h (by decide)
    · rw [itoa_pos (by omega)] at h
      exact head_dl h
  · intro h
    rw [itoa_neg h]; rfl
theorem numS_ok {sg : Bool} {p : List UInt8} {v : Int} (h : numS sg 6 p = some v) : I64 v ∧ Lib.itoa v = p ∧ Lib.atoiAll p = .ok v ∧ (Lib.trimPrefix p [45]).length ≤ 6 ∧ (sg = true ∨ 0 ≤ v) := by
  unfold numS at h
  split at h
  · cases h
  · rename_i hs
    obtain ⟨h1, h2, h3⟩ := numN_itoa (by decide) h
    have h4 := atoi_itoa h1
    rw [h2] at h4
    refine ⟨h1, h2, h4, by rw [trimP]; exact h3, ?_⟩
    cases sg
    · refine .inr (Int.not_lt.1 fun hv => hs ?_)
      rw [← h2, decide_eq_true ((sign_itoa v).2 hv)]; rfl
    · exact .inl rfl
theorem numS_of {sg : Bool} {p : List UInt8} {v : Int} (h2 : Lib.itoa v = p) (h3 : (Lib.trimPrefix p [45]).length ≤ 6) (h4 : sg = true ∨ 0 ≤ v) : numS sg 6 p = some v := by
  have hn : numN p 6 = some v := by
    subst h2
    exact numN_of (by rw [← trimP]; exact h3)
  unfold numS
  rw [if_neg, hn]
  intro h
  rw [Bool.and_eq_true, decide_eq_true_eq] at h
  rcases h4 with rfl | h4
  · exact absurd h.1 (by decide)
  · rw [← h2] at h
    have := (sign_itoa v).1 h.2
    omega

end Go.Proofs.YtfcfmpdpjmbcnaaGreatDoor
