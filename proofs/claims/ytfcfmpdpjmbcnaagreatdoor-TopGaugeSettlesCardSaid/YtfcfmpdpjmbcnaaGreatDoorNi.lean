/- Merged: XNp XNj. -/
import Derived.Test.YtfcfmpdpjmbcnaaGreatDoorNu
import Derived.Lib.Join
import Derived.Lib.Strings
set_option linter.unusedVariables false
set_option linter.unusedSimpArgs false
/- Lists of numbers as strings: cut, spelled, and read again. Nothing of the program. -/
namespace Go.Proofs.YtfcfmpdpjmbcnaaGreatDoor
open Go.RowKit
set_option maxRecDepth 20000

theorem cutA_join {c : UInt8} : ∀ (r : List (List UInt8)) (w : List UInt8), (∀ x ∈ w, x ≠ c) → (∀ p ∈ r, ∀ x ∈ p, x ≠ c) → cutA c [] (Lib.join (w :: r) [c]) = w :: r
  | [], w, h, _ => by
    rw [Lib.join_one, cutA_last _ _ h, List.nil_append]
  | v :: r, w, h, hr => by
    have h1 : Lib.join (w :: v :: r) [c] = w ++ c :: Lib.join (v :: r) [c] := by
      rw [Lib.join_cons, Lib.join_cons]
      unfold Lib.joinTail
      simp
    rw [h1, cutA_piece _ _ _ h, cutA_join r v (hr v List.mem_cons_self) fun p hp => hr p (List.mem_cons_of_mem _ hp), List.nil_append]
def numS (sg : Bool) (D : Nat) (w : List UInt8) : Option Int := if !sg && decide (w.head? = some 45) then none else numN w D
theorem dl_short : ∀ (k u : Nat), u < 10 ^ k → (dl u).length ≤ k
  | 0, u, hu => by
    obtain rfl : u = 0 := by omega
    rw [dl_zero]; exact Nat.le_refl _
  | k + 1, u, hu => by
    by_cases h0 : u = 0
    · subst h0; rw [dl_zero]; exact Nat.zero_le _
    · rw [dl_pos (by omega), List.length_append, List.length_singleton]
      have := dl_short k (u / 10) (by rw [Nat.pow_succ] at hu; omega)
      omega
theorem head_dl {u : Nat} : (dl u).head? ≠ some 45 := fun e => by
  cases hd : dl u with
  | nil => rw [hd] at e; cases e
  | cons x l =>
    rw [hd] at e
    injection e with e
    have := digB_iff.1 (dl_dig u x (by rw [hd]; simp))
    rw [e] at this
    exact absurd this.1 (by decide)
theorem numS_itoa {sg : Bool} {D : Nat} {v : Int} (hD : 0 < D) (h : v.natAbs < 10 ^ D) (hs : sg = true ∨ 0 ≤ v) : numS sg D (Lib.itoa v) = some v := by
  have hh : 0 ≤ v → (Lib.itoa v).head? ≠ some 45 := fun h0 e => by
    by_cases hv : v = 0
    · subst hv; rw [itoa_zero] at e; exact absurd e (by decide)
    · rw [itoa_pos (by omega)] at e
      exact head_dl e
  have ht : (trimL (Lib.itoa v)).length ≤ D := by
    unfold trimL
    by_cases h0 : 0 ≤ v
    · rw [if_neg (hh h0)]
      by_cases hv : v = 0
      · subst hv; rw [itoa_zero]; exact hD
      · rw [itoa_pos (by omega)]
        exact dl_short D _ (by rwa [show v.natAbs = v.toNat by omega] at h)
    · rw [itoa_neg (by omega), if_pos (show (45 :: dl v.natAbs).head? = some 45 from rfl)]
      exact dl_short D _ h
  have e : (!sg && decide ((Lib.itoa v).head? = some 45)) = false := by
    rcases hs with rfl | h0
    · rfl
    · rw [decide_eq_false (hh h0), Bool.and_false]
  unfold numS
  rw [e]
  exact numN_of ht
theorem itoa_no {c : UInt8} (hc : digB c = false) (h45 : c ≠ 45) {v : Int} : ∀ x ∈ Lib.itoa v, x ≠ c := fun x hx e => by
  subst e
  rcases itoa_byte x hx with h | h
  · rw [h] at hc; cases hc
  · exact h45 h
end Go.Proofs.YtfcfmpdpjmbcnaaGreatDoor

/- A piece's number, as the package tests it. Nothing of the program. -/
namespace Go.Proofs.YtfcfmpdpjmbcnaaGreatDoor
open Go.RowKit
set_option maxRecDepth 20000

theorem trimP (l : List UInt8) : Lib.trimPrefix l [45] = trimL l := by
  unfold Lib.trimPrefix trimL
  cases l with
  | nil => rfl
  | cons x l =>
    by_cases h : x = 45
    · subst h; rfl
    · have h1 : Lib.hasPrefix (x :: l) [45] = false := by
        unfold Lib.hasPrefix
        simp [List.isPrefixOf, h, Ne.symm h]
        try exact fun e => h e.symm
      rw [h1]
      have h2 : ¬ (x :: l).head? = some 45 := fun e => h (Option.some.inj e)
      rw [if_neg h2]; rfl
theorem sign_itoa (v : Int) : (Lib.itoa v).head? = some 45 ↔ v < 0 := by
  constructor
  · intro h
    refine Int.not_le.1 fun h0 => ?_
    by_cases hv : v = 0
    · subst hv; rw [itoa_zero] at h; exact absurd h (by decide)
    · rw [itoa_pos (by omega)] at h
      exact head_dl h
  · intro h
    rw [itoa_neg h]; rfl
end Go.Proofs.YtfcfmpdpjmbcnaaGreatDoor
/- Strings of loops (chapter 5): spelled, and read again. Nothing of the program. -/
set_option linter.unusedVariables false
set_option linter.unusedSimpArgs false
namespace Go.Proofs.YtfcfmpdpjmbcnaaGreatDoor
open Go.RowKit
set_option maxRecDepth 20000

theorem cut_cases (c : UInt8) (l : List UInt8) : (Lib.cut l [c] = (l, [], false) ∧ cutA c [] l = [l]) ∨ ∃ a b, Lib.cut l [c] = (a, b, true) ∧ cutA c [] l = a :: cutA c [] b ∧ a.length + b.length < l.length := by
  rcases cutA_idx c l [] with ⟨h1, h2⟩ | ⟨i, h1, h2, h3⟩
  · refine .inl ⟨?_, by rw [h2, List.nil_append]⟩
    unfold Lib.cut
    rw [h1]; rfl
  · refine .inr ⟨l.take i, l.drop (i + 1), ?_, by rw [h3, List.nil_append], ?_⟩
    · unfold Lib.cut
      rw [h1, if_pos (by omega)]
      simp
    · rw [List.length_take, List.length_drop]
      omega
theorem cutA_chars (c : UInt8) : ∀ (l cur : List UInt8), ∀ x ∈ cur ++ l, x = c ∨ ∃ p ∈ cutA c cur l, x ∈ p
  | [], cur, x, h => .inr ⟨cur, by unfold cutA; exact List.mem_singleton.2 rfl, by rwa [List.append_nil] at h⟩
  | y :: l, cur, x, h => by
    by_cases e : y = c
    · subst e
      rw [cutA_hit]
      rcases List.mem_append.1 h with h | h
      · exact .inr ⟨cur, List.mem_cons_self, h⟩
      · rcases List.mem_cons.1 h with h | h
        · exact .inl h
        · rcases cutA_chars y l [] x (by rwa [List.nil_append]) with h | ⟨p, h1, h2⟩
          · exact .inl h
          · exact .inr ⟨p, List.mem_cons_of_mem _ h1, h2⟩
    · rw [cutA_miss e]
      exact cutA_chars c l (cur ++ [y]) x (by rw [List.append_assoc]; exact h)
theorem cutA_none {c : UInt8} {l : List UInt8} (h : ∀ x ∈ l, x ≠ c) : cutA c [] l = [l] := by
  rw [cutA_last l [] h, List.nil_append]
theorem numS_chars {sg : Bool} {w : List UInt8} {v : Int} (h : numS sg 2 w = some v) : ∀ x ∈ w, digB x = true ∨ x = 45 := by
  unfold numS at h
  split at h
  · cases h
  · obtain ⟨_, h2, _⟩ := numN_itoa (by decide) h
    rw [← h2]
    exact fun x hx => itoa_byte x hx
theorem dig_ne {c x : UInt8} (hc : digB c = false) (h45 : c ≠ 45) (h : digB x = true ∨ x = 45) : x ≠ c := fun e => by
  subst e
  rcases h with h | h
  · rw [hc] at h; cases h
  · exact h45 h
theorem numS_one {sg : Bool} {w : List UInt8} {v : Int} {c : UInt8} (hc : digB c = false) (h45 : c ≠ 45) (h : numS sg 2 w = some v) : cutA c [] w = [w] :=
  cutA_none fun x hx => dig_ne hc h45 (numS_chars h x hx)
def pairP : List (List UInt8) → Option (Int × Int)
  | [a, b] => match numS true 2 a, numS true 2 b with
    | some x, some y => some (x, y)
    | _, _ => none
  | _ => none
theorem pairP_two (a b : List UInt8) : pairP [a, b] = match numS true 2 a, numS true 2 b with
    | some x, some y => some (x, y)
    | _, _ => none := rfl
def pairS (w : List UInt8) : Option (Int × Int) := pairP (cutA 32 [] w)
theorem pairP_some {ps : List (List UInt8)} {r : Int × Int} (h : pairP ps = some r) : ∃ a b, ps = [a, b] ∧ numS true 2 a = some r.1 ∧ numS true 2 b = some r.2 := by
  match ps, h with
  | [a, b], h =>
    rw [pairP_two] at h
    cases ha : numS true 2 a with
    | none => rw [ha] at h; cases h
    | some x =>
      cases hb : numS true 2 b with
      | none => rw [ha, hb] at h; cases h
      | some y =>
        rw [ha, hb] at h
        injection h with h
        subst h
        exact ⟨a, b, rfl, ha, hb⟩
def goodW (w : List UInt8) : Bool := (Lib.cut w [32]).2.2 && ((numS true 2 (Lib.cut w [32]).1).isSome && (numS true 2 (Lib.cut w [32]).2.1).isSome)
theorem pair_cut (w : List UInt8) : (goodW w = false ∧ pairS w = none) ∨ ∃ x y, goodW w = true ∧ pairS w = some (x, y) ∧ numS true 2 (Lib.cut w [32]).1 = some x ∧ numS true 2 (Lib.cut w [32]).2.1 = some y := by
  unfold goodW pairS
  rcases cut_cases 32 w with ⟨h1, h2⟩ | ⟨a, b, h1, h2, _⟩
  · rw [h1, h2]
    exact .inl ⟨rfl, rfl⟩
  · rw [h1, h2]
    show ((true && ((numS true 2 a).isSome && (numS true 2 b).isSome)) = false ∧ _) ∨ ∃ x y, (true && ((numS true 2 a).isSome && (numS true 2 b).isSome)) = true ∧ _ ∧ numS true 2 a = some x ∧ numS true 2 b = some y
    cases hb : numS true 2 b with
    | some y =>
      rw [numS_one (by decide) (by decide) hb]
      cases ha : numS true 2 a with
      | some x => exact .inr ⟨x, y, rfl, by rw [pairP_two, ha, hb], rfl, rfl⟩
      | none => exact .inl ⟨rfl, by rw [pairP_two, ha]⟩
    | none =>
      refine .inl ⟨by cases numS true 2 a <;> rfl, ?_⟩
      rcases cut_cases 32 b with ⟨_, h4⟩ | ⟨a', b', _, h4, _⟩
      · rw [h4, pairP_two, hb]
        cases numS true 2 a <;> rfl
      · rw [h4]
        cases h5 : cutA 32 [] b' with
        | nil =>
          have := cutA_pos 32 b' []
          rw [h5] at this
          exact absurd this (by decide)
        | cons u r => rfl
def pairsS : List (List UInt8) → Option (List (Int × Int))
  | [] => some []
  | w :: r => match pairS w with
    | none => none
    | some a => match pairsS r with
      | none => none
      | some l => some (a :: l)
theorem pairsS_cons (w : List UInt8) (r : List (List UInt8)) : pairsS (w :: r) = match pairS w with
    | none => none
    | some a => match pairsS r with
      | none => none
      | some l => some (a :: l) := rfl
theorem pairsS_mem : ∀ (r : List (List UInt8)) (l : List (Int × Int)), pairsS r = some l → l.length = r.length ∧ ∀ w ∈ r, ∃ v, pairS w = some v
  | [], l, h => by injection h with h; subst h; exact ⟨rfl, fun w hw => by cases hw⟩
  | p :: r, l, h => by
    rw [pairsS_cons] at h
    cases hp : pairS p with
    | none => rw [hp] at h; cases h
    | some v =>
      rw [hp] at h
      cases hr : pairsS r with
      | none => rw [hr] at h; cases h
      | some k =>
        rw [hr] at h
        injection h with h
        subst h
        obtain ⟨h1, h2⟩ := pairsS_mem r k hr
        refine ⟨by rw [List.length_cons, List.length_cons, h1], fun w hw => ?_⟩
        rcases List.mem_cons.1 hw with rfl | hw
        · exact ⟨v, hp⟩
        · exact h2 w hw
def loopP : List (List UInt8) → Option (Int × List (Int × Int))
  | [d, r] => match numS false 2 d, pairsS (cutA 44 [] r) with
    | some x, some l => some (x, l)
    | _, _ => none
  | _ => none
theorem loopP_two (d r : List UInt8) : loopP [d, r] = match numS false 2 d, pairsS (cutA 44 [] r) with
    | some x, some l => some (x, l)
    | _, _ => none := rfl
theorem pairs_chars {r : List UInt8} {l : List (Int × Int)} (h : pairsS (cutA 44 [] r) = some l) : ∀ x ∈ r, x ≠ 59 := by
  intro x hx e
  subst e
  rcases cutA_chars 44 r [] 59 (by rwa [List.nil_append]) with h1 | ⟨w, h1, h2⟩
  · exact absurd h1 (by decide)
  · obtain ⟨v, hv⟩ := (pairsS_mem _ _ h).2 w h1
    obtain ⟨a, b, e, ha, hb⟩ := pairP_some hv
    rcases cutA_chars 32 w [] 59 (by rwa [List.nil_append]) with h3 | ⟨q, h3, h4⟩
    · exact absurd h3 (by decide)
    · rw [e] at h3
      have hq : numS true 2 q = some v.1 ∨ numS true 2 q = some v.2 := by
        rcases List.mem_cons.1 h3 with rfl | h3
        · exact .inl ha
        · rw [List.mem_singleton.1 h3]
          exact .inr hb
      rcases hq with hq | hq <;> exact dig_ne (by decide) (by decide) (numS_chars hq 59 h4) rfl
theorem loop_cut (s : List UInt8) : ((Lib.cut s [59]).2.2 = false ∧ loopP (cutA 59 [] s) = none) ∨ ∃ d r, Lib.cut s [59] = (d, r, true) ∧ d.length + r.length < s.length ∧ loopP (cutA 59 [] s) = match numS false 2 d, pairsS (cutA 44 [] r) with
    | some x, some l => some (x, l)
    | _, _ => none := by
  rcases cut_cases 59 s with ⟨h1, h2⟩ | ⟨d, r, h1, h2, h3⟩
  · rw [h1, h2]
    exact .inl ⟨rfl, rfl⟩
  · refine .inr ⟨d, r, h1, h3, ?_⟩
    rw [h2]
    cases hp : pairsS (cutA 44 [] r) with
    | some l =>
      rw [cutA_none (pairs_chars hp), loopP_two, hp]
    | none =>
      have e : (match numS false 2 d, (none : Option (List (Int × Int))) with | some x, some l => some (x, l) | _, _ => none) = none := by cases numS false 2 d <;> rfl
      rw [e]
      rcases cut_cases 59 r with ⟨_, h4⟩ | ⟨a', b', _, h4, _⟩
      · rw [h4, loopP_two, hp]
        cases numS false 2 d <;> rfl
      · rw [h4]
        cases h5 : cutA 59 [] b' with
        | nil =>
          have := cutA_pos 59 b' []
          rw [h5] at this
          exact absurd this (by decide)
        | cons u q => rfl
def endS (r : Int × Int) : List UInt8 := Lib.itoa r.1 ++ [32] ++ Lib.itoa r.2
def fmtE (c : List (Int × Int)) : List UInt8 := Lib.join (c.map endS) [44]
def fmtG (c : List (Int × Int)) (den : Int) : List UInt8 := Lib.itoa den ++ [59] ++ fmtE c
theorem endS_chars (r : Int × Int) : ∀ x ∈ endS r, (digB x = true ∨ x = 45) ∨ x = 32 := fun x hx => by
  unfold endS at hx
  rcases List.mem_append.1 hx with hx | hx
  · rcases List.mem_append.1 hx with hx | hx
    · exact .inl (itoa_byte x hx)
    · exact .inr (List.mem_singleton.1 hx)
  · exact .inl (itoa_byte x hx)
theorem endS_no {c : UInt8} (hc : digB c = false) (h45 : c ≠ 45) (h32 : c ≠ 32) (r : Int × Int) : ∀ x ∈ endS r, x ≠ c := fun x hx => by
  rcases endS_chars r x hx with h | h
  · exact dig_ne hc h45 h
  · rw [h]; exact fun e => h32 e.symm
theorem pairS_endS {r : Int × Int} (h1 : r.1.natAbs < 100) (h2 : r.2.natAbs < 100) : pairS (endS r) = some r := by
  unfold pairS endS
  rw [List.append_assoc, show [32] ++ Lib.itoa r.2 = (32 : UInt8) :: Lib.itoa r.2 from rfl, cutA_piece _ _ _ (itoa_no (by decide) (by decide)), List.nil_append, cutA_none (itoa_no (by decide) (by decide))]
  rw [pairP_two, numS_itoa (by decide) h1 (.inl rfl), numS_itoa (by decide) h2 (.inl rfl)]
theorem pairsS_fmt : ∀ (c : List (Int × Int)), (∀ r ∈ c, r.1.natAbs < 100 ∧ r.2.natAbs < 100) → pairsS (c.map endS) = some c
  | [], _ => rfl
  | r :: c, h => by
    obtain ⟨h1, h2⟩ := h r List.mem_cons_self
    rw [List.map_cons, pairsS_cons, pairS_endS h1 h2, pairsS_fmt c fun x hx => h x (List.mem_cons_of_mem _ hx)]
theorem fmtE_no59 : ∀ (c : List (Int × Int)), ∀ x ∈ fmtE c, x ≠ 59 := by
  intro c
  cases c with
  | nil => intro x hx; cases hx
  | cons r c =>
    unfold fmtE
    rw [List.map_cons, Lib.join_cons]
    unfold Lib.joinTail
    intro x hx
    rcases List.mem_append.1 hx with h | h
    · exact endS_no (by decide) (by decide) (by decide) r x h
    · obtain ⟨p, hp, hx⟩ := List.mem_flatten.1 h
      obtain ⟨q, hq, rfl⟩ := List.mem_map.1 hp
      obtain ⟨u, _, rfl⟩ := List.mem_map.1 hq
      rcases List.mem_append.1 hx with h | h
      · rw [List.mem_singleton.1 h]; decide
      · exact endS_no (by decide) (by decide) (by decide) u x h
theorem loopP_fmt {c : List (Int × Int)} {den : Int} (hc : c ≠ []) (h : ∀ r ∈ c, r.1.natAbs < 100 ∧ r.2.natAbs < 100) (hd : 0 ≤ den ∧ den < 100) : loopP (cutA 59 [] (fmtG c den)) = some (den, c) := by
  unfold fmtG
  rw [List.append_assoc, show [59] ++ fmtE c = (59 : UInt8) :: fmtE c from rfl, cutA_piece _ _ _ (itoa_no (by decide) (by decide)), List.nil_append, cutA_none (fmtE_no59 c)]
  rw [loopP_two]
  have e : cutA 44 [] (fmtE c) = c.map endS := by
    cases c with
    | nil => exact absurd rfl hc
    | cons r c =>
      unfold fmtE
      rw [List.map_cons]
      refine cutA_join _ _ (endS_no (by decide) (by decide) (by decide) r) fun p hp => ?_
      obtain ⟨u, _, rfl⟩ := List.mem_map.1 hp
      exact endS_no (by decide) (by decide) (by decide) u
  rw [e, numS_itoa (by decide) (show den.natAbs < 100 by omega) (.inr hd.1), pairsS_fmt c h]

end Go.Proofs.YtfcfmpdpjmbcnaaGreatDoor
