/- Sets of marks that contradict a circumference: plain laws. Nothing of the program. -/
import Derived.Test.YtemihhkbieplmaaIc
set_option linter.unusedVariables false
set_option linter.unusedSimpArgs false
namespace Go.Proofs.Ytemihhkbieplmaa
open Go.RowKit
set_option maxRecDepth 20000

theorem expl_mod (xs : List Int) (t r ph c i : Int) : expl xs t r (ph + c * r) i = expl xs t r ph i := by
  have : nth xs i.toNat - (ph + c * r) = (nth xs i.toNat - ph) + (-c) * r := by rw [Int.neg_mul]; omega
  unfold expl
  rw [this, Int.add_mul_emod_self_right]
theorem explA_mod (xs : List Int) (t r ph c : Int) : ∀ l, explA xs t r (ph + c * r) l = explA xs t r ph l
  | [] => rfl
  | i :: l => by
    show (expl xs t r (ph + c * r) i && explA xs t r (ph + c * r) l) = (expl xs t r ph i && explA xs t r ph l)
    rw [expl_mod, explA_mod xs t r ph c l]
theorem explA_all {xs : List Int} {t r ph : Int} : ∀ {l : List Int}, explA xs t r ph l = true ↔ ∀ i ∈ l, expl xs t r ph i = true
  | [] => by simp [explA]
  | i :: l => by
    show (expl xs t r ph i && explA xs t r ph l) = true ↔ _
    rw [Bool.and_eq_true, explA_all, List.forall_mem_cons]
/-- Fewer marks have a phase, too. -/
theorem phOk_any {xs : List Int} {t r : Int} {l m : List Int} (ht : 0 ≤ t) (hr : 4 * t < r) (h : phOk xs t r l = true) (hm : m ≠ []) (hs : ∀ i ∈ m, i ∈ l) : phOk xs t r m = true := by
  have h := of_decide_eq_true h
  have hlo : -t ≤ (phEnd xs t r l).1 := (eLo'.1 (Int.le_refl _)).1
  have hhi : (phEnd xs t r l).2 ≤ t := (eHi'.1 (Int.le_refl _)).1
  have he := (explA_iff (xs := xs) (is := l) ht hr hlo (Int.le_trans h hhi)).2 ⟨Int.le_refl _, h⟩
  generalize hph : phA xs l + (phEnd xs t r l).1 = ph at he
  have he2 : explA xs t r ph m = true := explA_all.2 fun i hi => explA_all.1 he i (hs i hi)
  obtain ⟨k, m', rfl⟩ : ∃ k m', m = k :: m' := by
    cases m with
    | nil => exact absurd rfl hm
    | cons k m' => exact ⟨k, m', rfl⟩
  have hk := explA_all.1 he2 k (by simp)
  have hr0 : 0 < r := by omega
  have d1 := Int.emod_nonneg (nth xs k.toNat - ph) (show r ≠ 0 by omega)
  have d2 := Int.emod_lt_of_pos (nth xs k.toNat - ph) hr0
  have d3 := Int.mul_ediv_add_emod (nth xs k.toNat - ph) r
  obtain ⟨f, c, f1, f2, hf⟩ : ∃ f c : Int, -t ≤ f ∧ f ≤ t ∧ phA xs (k :: m') + f = ph + c * r := by
    have ha : phA xs (k :: m') = nth xs k.toNat := rfl
    rw [ha]
    unfold expl at hk
    rw [Bool.or_eq_true, decide_eq_true_iff, decide_eq_true_iff] at hk
    rw [Int.mul_comm] at d3
    by_cases hc : (nth xs k.toNat - ph) % r ≤ t
    · exact ⟨-((nth xs k.toNat - ph) % r), (nth xs k.toNat - ph) / r, by omega, by omega, by omega⟩
    · refine ⟨r - (nth xs k.toNat - ph) % r, (nth xs k.toNat - ph) / r + 1, by omega, by omega, ?_⟩
      rw [Int.add_mul, Int.one_mul]; omega
  have h3 := (explA_iff (xs := xs) (is := k :: m') ht hr f1 f2).1 (by rw [hf, explA_mod]; exact he2)
  exact decide_eq_true (Int.le_trans h3.1 h3.2)
theorem grw_sub {xs l : List Int} {m : Nat} (hm : 1 ≤ m) (h : l ∈ grw xs.length m [] 0) : l ≠ [] ∧ ∀ i ∈ l, i ∈ allM xs := by
  obtain ⟨s, rfl, h1, h2⟩ := grw_mem.1 h
  refine ⟨fun e => by rw [e] at h1; simp at h1; omega, fun i hi => ?_⟩
  obtain ⟨j, rfl, _, h3⟩ := rise_all h2 i hi
  exact List.mem_map.2 ⟨j, by simpa using h3, rfl⟩
/-- Marks with a phase do not contradict. -/
theorem ctrS_of_ok {xs : List Int} {t r : Int} (ht : 0 ≤ t) (hr : 4 * t < r) (h : phOk xs t r (allM xs) = true) : ctrS xs t r = none := by
  have key : ∀ m, 1 ≤ m → ctrN xs t r m = none := fun m hm => by
    unfold ctrN
    rw [List.find?_eq_none]
    intro l hl
    obtain ⟨h1, h2⟩ := grw_sub hm hl
    rw [phOk_any ht hr h h1 h2]; simp
  unfold ctrS
  rw [key 2 (by omega), key 3 (by omega)]; rfl

end Go.Proofs.Ytemihhkbieplmaa
