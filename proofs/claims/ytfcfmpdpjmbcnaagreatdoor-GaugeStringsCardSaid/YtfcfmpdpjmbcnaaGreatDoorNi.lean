/- Strings of loops (chapter 5): spelled, and read again. Nothing of the program. -/
import Derived.Test.YtfcfmpdpjmbcnaaGreatDoorNh
set_option linter.unusedVariables false
set_option linter.unusedSimpArgs false
namespace Go.Proofs.YtfcfmpdpjmbcnaaGreatDoor
open Go.RowKit
set_option maxRecDepth 20000

/-- A string cut once. -/
theorem cut_cases (c : UInt8) (l : List UInt8) : (Lib.cut l [c] = (l, [], false) ∧ cutA c [] l = [l]) ∨ ∃ a b, Lib.cut l [c] = (a, b, true) ∧ cutA c [] l = a :: cutA c [] b ∧ a.length + b.length < l.length := by
  rcases cutA_idx c l [] with ⟨h1, h2⟩ | ⟨i, h1, h2, h3⟩
  · refine .inl ⟨?_, by rw [h2, List.nil_append]⟩
    unfold Lib.cut
    rw [h1]; rfl
  · refine .inr ⟨l.take i, l.drop (i + 1), ?_, by rw [h3, List.nil_append], ?_⟩
    · unfold Lib.cut
      rw [h1, if_pos (by omega)]
      simp
    · rw [List.length_take, List.length_drop]
      omega
theorem cutA_chars (c : UInt8) : ∀ (l cur : List UInt8), ∀ x ∈ cur ++ l, x = c ∨ ∃ p ∈ cutA c cur l, x ∈ p
  | [], cur, x, h => .inr ⟨cur, by unfold cutA; exact List.mem_singleton.2 rfl, by rwa [List.append_nil] at h⟩
  | y :: l, cur, x, h => by
    by_cases e : y = c
    · subst e
      rw [cutA_hit]
      rcases List.mem_append.1 h with h | h
      · exact .inr ⟨cur, List.mem_cons_self, h⟩
      · rcases List.mem_cons.1 h with h | h
        · exact .inl h
        · rcases cutA_chars y l [] x (by rwa [List.nil_append]) with h | ⟨p, h1, h2⟩
          · exact .inl h
          · exact .inr ⟨p, List.mem_cons_of_mem _ h1, h2⟩
    · rw [cutA_miss e]
      exact cutA_chars c l (cur ++ [y]) x (by rw [List.append_assoc]; exact h)
theorem cutA_none {c : UInt8} {l : List UInt8} (h : ∀ x ∈ l, x ≠ c) : cutA c [] l = [l] := by
  rw [cutA_last l [] h, List.nil_append]
/-- What spells a number has digits and signs alone. -/
theorem numS_chars {sg : Bool} {w : List UInt8} {v : Int} (h : numS sg 2 w = some v) : ∀ x ∈ w, digB x = true ∨ x = 45 := by
  unfold numS at h
  split at h
  · cases h
  · obtain ⟨_, h2, _⟩ := numN_itoa (by decide) h
    rw [← h2]
    exact fun x hx => itoa_byte x hx
theorem dig_ne {c x : UInt8} (hc : digB c = false) (h45 : c ≠ 45) (h : digB x = true ∨ x = 45) : x ≠ c := fun e => by
  subst e
  rcases h with h | h
  · rw [hc] at h; cases h
  · exact h45 h
theorem numS_one {sg : Bool} {w : List UInt8} {v : Int} {c : UInt8} (hc : digB c = false) (h45 : c ≠ 45) (h : numS sg 2 w = some v) : cutA c [] w = [w] :=
  cutA_none fun x hx => dig_ne hc h45 (numS_chars h x hx)
/-- Two ends, of a piece; of pieces. -/
def pairP : List (List UInt8) → Option (Int × Int)
  | [a, b] => match numS true 2 a, numS true 2 b with
    | some x, some y => some (x, y)
    | _, _ => none
  | _ => none
theorem pairP_two (a b : List UInt8) : pairP [a, b] = match numS true 2 a, numS true 2 b with
    | some x, some y => some (x, y)
    | _, _ => none := rfl
def pairS (w : List UInt8) : Option (Int × Int) := pairP (cutA 32 [] w)
theorem pairP_some {ps : List (List UInt8)} {r : Int × Int} (h : pairP ps = some r) : ∃ a b, ps = [a, b] ∧ numS true 2 a = some r.1 ∧ numS true 2 b = some r.2 := by
  match ps, h with
  | [a, b], h =>
    rw [pairP_two] at h
    cases ha : numS true 2 a with
    | none => rw [ha] at h; cases h
    | some x =>
      cases hb : numS true 2 b with
      | none => rw [ha, hb] at h; cases h
      | some y =>
        rw [ha, hb] at h
        injection h with h
        subst h
        exact ⟨a, b, rfl, ha, hb⟩
/-- The package's way: cut once. -/
def goodW (w : List UInt8) : Bool := (Lib.cut w [32]).2.2 && ((numS true 2 (Lib.cut w [32]).1).isSome && (numS true 2 (Lib.cut w [32]).2.1).isSome)
theorem pair_cut (w : List UInt8) : (goodW w = false ∧ pairS w = none) ∨ ∃ x y, goodW w = true ∧ pairS w = some (x, y) ∧ numS true 2 (Lib.cut w [32]).1 = some x ∧ numS true 2 (Lib.cut w [32]).2.1 = some y := by
  unfold goodW pairS
  rcases cut_cases 32 w with ⟨h1, h2⟩ | ⟨a, b, h1, h2, _⟩
  · rw [h1, h2]
    exact .inl ⟨rfl, rfl⟩
  · rw [h1, h2]
    show ((true && ((numS true 2 a).isSome && (numS true 2 b).isSome)) = false ∧ _) ∨ ∃ x y, (true && ((numS true 2 a).isSome && (numS true 2 b).isSome)) = true ∧ _ ∧ numS true 2 a = some x ∧ numS true 2 b = some y
    cases hb : numS true 2 b with
    | some y =>
      rw [numS_one (by decide) (by decide) hb]
      cases ha : numS true 2 a with
      | some x => exact .inr ⟨x, y, rfl, by rw [pairP_two, ha, hb], rfl, rfl⟩
      | none => exact .inl ⟨rfl, by rw [pairP_two, ha]⟩
    | none =>
      refine .inl ⟨by cases numS true 2 a <;> rfl, ?_⟩
      rcases cut_cases 32 b with ⟨_, h4⟩ | ⟨a', b', _, h4, _⟩
      · rw [h4, pairP_two, hb]
        cases numS true 2 a <;> rfl
      · rw [h4]
        cases h5 : cutA 32 [] b' with
        | nil =>
          have := cutA_pos 32 b' []
          rw [h5] at this
          exact absurd this (by decide)
        | cons u r => rfl
def pairsS : List (List UInt8) → Option (List (Int × Int))
  | [] => some []
  | w :: r => match pairS w with
    | none => none
    | some a => match pairsS r with
      | none => none
      | some l => some (a :: l)
theorem pairsS_cons (w : List UInt8) (r : List (List UInt8)) : pairsS (w :: r) = match pairS w with
    | none => none
    | some a => match pairsS r with
      | none => none
      | some l => some (a :: l) := rfl
theorem pairsS_snoc (w : List UInt8) : ∀ (r : List (List UInt8)) (l : List (Int × Int)), pairsS r = some l → pairsS (r ++ [w]) = (pairS w).map fun v => l ++ [v]
  | [], l, h => by
    injection h with h
    subst h
    rw [List.nil_append, pairsS_cons]
    cases pairS w <;> rfl
  | p :: r, l, h => by
    rw [pairsS_cons] at h
    rw [List.cons_append, pairsS_cons]
    cases hp : pairS p with
    | none => rw [hp] at h; cases h
    | some v =>
      rw [hp] at h
      cases hr : pairsS r with
      | none => rw [hr] at h; cases h
      | some k =>
        rw [hr] at h
        injection h with h
        subst h
        rw [pairsS_snoc w r k hr]
        cases pairS w <;> rfl
theorem pairsS_none : ∀ (r : List (List UInt8)) (w : List UInt8), w ∈ r → pairS w = none → pairsS r = none
  | p :: r, w, h, hw => by
    rw [pairsS_cons]
    rcases List.mem_cons.1 h with rfl | h
    · rw [hw]
    · rw [pairsS_none r w h hw]
      cases pairS p <;> rfl
theorem pairsS_mem : ∀ (r : List (List UInt8)) (l : List (Int × Int)), pairsS r = some l → l.length = r.length ∧ ∀ w ∈ r, ∃ v, pairS w = some v
  | [], l, h => by injection h with h; subst h; exact ⟨rfl, fun w hw => by cases hw⟩
  | p :: r, l, h => by
    rw [pairsS_cons] at h
    cases hp : pairS p with
    | none => rw [hp] at h; cases h
    | some v =>
      rw [hp] at h
      cases hr : pairsS r with
      | none => rw [hr] at h; cases h
      | some k =>
        rw [hr] at h
        injection h with h
        subst h
        obtain ⟨h1, h2⟩ := pairsS_mem r k hr
        refine ⟨by rw [List.length_cons, List.length_cons, h1], fun w hw => ?_⟩
        rcases List.mem_cons.1 hw with rfl | hw
        · exact ⟨v, hp⟩
        · exact h2 w hw
/-- The loop of a string's pieces. -/
def loopP : List (List UInt8) → Option (Int × List (Int × Int))
  | [d, r] => match numS false 2 d, pairsS (cutA 44 [] r) with
    | some x, some l => some (x, l)
    | _, _ => none
  | _ => none
theorem loopP_two (d r : List UInt8) : loopP [d, r] = match numS false 2 d, pairsS (cutA 44 [] r) with
    | some x, some l => some (x, l)
    | _, _ => none := rfl
theorem pairs_chars {r : List UInt8} {l : List (Int × Int)} (h : pairsS (cutA 44 [] r) = some l) : ∀ x ∈ r, x ≠ 59 := by
  intro x hx e
  subst e
  rcases cutA_chars 44 r [] 59 (by rwa [List.nil_append]) with h1 | ⟨w, h1, h2⟩
  · exact absurd h1 (by decide)
  · obtain ⟨v, hv⟩ := (pairsS_mem _ _ h).2 w h1
    obtain ⟨a, b, e, ha, hb⟩ := pairP_some hv
    rcases cutA_chars 32 w [] 59 (by rwa [List.nil_append]) with h3 | ⟨q, h3, h4⟩
    · exact absurd h3 (by decide)
    · rw [e] at h3
      have hq : numS true 2 q = some v.1 ∨ numS true 2 q = some v.2 := by
        rcases List.mem_cons.1 h3 with rfl | h3
        · exact .inl ha
        · rw [List.mem_singleton.1 h3]
          exact .inr hb
      rcases hq with hq | hq <;> exact dig_ne (by decide) (by decide) (numS_chars hq 59 h4) rfl
/-- The package's way: cut once. -/
theorem loop_cut (s : List UInt8) : ((Lib.cut s [59]).2.2 = false ∧ loopP (cutA 59 [] s) = none) ∨ ∃ d r, Lib.cut s [59] = (d, r, true) ∧ d.length + r.length < s.length ∧ loopP (cutA 59 [] s) = match numS false 2 d, pairsS (cutA 44 [] r) with
    | some x, some l => some (x, l)
    | _, _ => none := by
  rcases cut_cases 59 s with ⟨h1, h2⟩ | ⟨d, r, h1, h2, h3⟩
  · rw [h1, h2]
    exact .inl ⟨rfl, rfl⟩
  · refine .inr ⟨d, r, h1, h3, ?_⟩
    rw [h2]
    cases hp : pairsS (cutA 44 [] r) with
    | some l =>
      rw [cutA_none (pairs_chars hp), loopP_two, hp]
    | none =>
      have e : (match numS false 2 d, (none : Option (List (Int × Int))) with | some x, some l => some (x, l) | _, _ => none) = none := by cases numS false 2 d <;> rfl
      rw [e]
      rcases cut_cases 59 r with ⟨_, h4⟩ | ⟨a', b', _, h4, _⟩
      · rw [h4, loopP_two, hp]
        cases numS false 2 d <;> rfl
      · rw [h4]
        cases h5 : cutA 59 [] b' with
        | nil =>
          have := cutA_pos 59 b' []
          rw [h5] at this
          exact absurd this (by decide)
        | cons u q => rfl
/-- The string of a loop. -/
def endS (r : Int × Int) : List UInt8 := Lib.itoa r.1 ++ [32] ++ Lib.itoa r.2
def fmtE (c : List (Int × Int)) : List UInt8 := Lib.join (c.map endS) [44]
def fmtG (c : List (Int × Int)) (den : Int) : List UInt8 := Lib.itoa den ++ [59] ++ fmtE c
theorem endS_chars (r : Int × Int) : ∀ x ∈ endS r, (digB x = true ∨ x = 45) ∨ x = 32 := fun x hx => by
  unfold endS at hx
  rcases List.mem_append.1 hx with hx | hx
  · rcases List.mem_append.1 hx with hx | hx
    · exact .inl (itoa_byte x hx)
    · exact .inr (List.mem_singleton.1 hx)
  · exact .inl (itoa_byte x hx)
theorem endS_no {c : UInt8} (hc : digB c = false) (h45 : c ≠ 45) (h32 : c ≠ 32) (r : Int × Int) : ∀ x ∈ endS r, x ≠ c := fun x hx => by
  rcases endS_chars r x hx with h | h
  · exact dig_ne hc h45 h
  · rw [h]; exact fun e => h32 e.symm
theorem pairS_endS {r : Int × Int} (h1 : r.1.natAbs < 100) (h2 : r.2.natAbs < 100) : pairS (endS r) = some r := by
  unfold pairS endS
  rw [List.append_assoc, show [32] ++ Lib.itoa r.2 = (32 : UInt8) :: Lib.itoa r.2 from rfl, cutA_piece _ _ _ (itoa_no (by decide) (by decide)), List.nil_append, cutA_none (itoa_no (by decide) (by decide))]
  rw [pairP_two, numS_itoa (by decide) h1 (.inl rfl), numS_itoa (by decide) h2 (.inl rfl)]
theorem pairsS_fmt : ∀ (c : List (Int × Int)), (∀ r ∈ c, r.1.natAbs < 100 ∧ r.2.natAbs < 100) → pairsS (c.map endS) = some c
  | [], _ => rfl
  | r :: c, h => by
    obtain ⟨h1, h2⟩ := h r List.mem_cons_self
    rw [List.map_cons, pairsS_cons, pairS_endS h1 h2, pairsS_fmt c fun x hx => h x (List.mem_cons_of_mem _ hx)]
theorem fmtE_no59 : ∀ (c : List (Int × Int)), ∀ x ∈ fmtE c, x ≠ 59 := by
  intro c
  cases c with
  | nil => intro x hx; cases hx
  | cons r c =>
    unfold fmtE
    rw [List.map_cons, Lib.join_cons]
    unfold Lib.joinTail
    intro x hx
    rcases List.mem_append.1 hx with h | h
    · exact endS_no (by decide) (by decide) (by decide) r x h
    · obtain ⟨p, hp, hx⟩ := List.mem_flatten.1 h
      obtain ⟨q, hq, rfl⟩ := List.mem_map.1 hp
      obtain ⟨u, _, rfl⟩ := List.mem_map.1 hq
      rcases List.mem_append.1 hx with h | h
      · rw [List.mem_singleton.1 h]; decide
      · exact endS_no (by decide) (by decide) (by decide) u x h
theorem loopP_fmt {c : List (Int × Int)} {den : Int} (hc : c ≠ []) (h : ∀ r ∈ c, r.1.natAbs < 100 ∧ r.2.natAbs < 100) (hd : 0 ≤ den ∧ den < 100) : loopP (cutA 59 [] (fmtG c den)) = some (den, c) := by
  unfold fmtG
  rw [List.append_assoc, show [59] ++ fmtE c = (59 : UInt8) :: fmtE c from rfl, cutA_piece _ _ _ (itoa_no (by decide) (by decide)), List.nil_append, cutA_none (fmtE_no59 c)]
  rw [loopP_two]
  have e : cutA 44 [] (fmtE c) = c.map endS := by
    cases c with
    | nil => exact absurd rfl hc
    | cons r c =>
      unfold fmtE
      rw [List.map_cons]
      refine cutA_join _ _ (endS_no (by decide) (by decide) (by decide) r) fun p hp => ?_
      obtain ⟨u, _, rfl⟩ := List.mem_map.1 hp
      exact endS_no (by decide) (by decide) (by decide) u
  rw [e, numS_itoa (by decide) (show den.natAbs < 100 by omega) (.inr hd.1), pairsS_fmt c h]

end Go.Proofs.YtfcfmpdpjmbcnaaGreatDoor
