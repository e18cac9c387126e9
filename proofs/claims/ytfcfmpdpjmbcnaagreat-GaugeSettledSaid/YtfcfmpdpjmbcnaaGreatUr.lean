/- The monitor of the examples rests. Nothing of the program. -/
import Derived.Test.YtfcfmpdpjmbcnaaGreatUn
set_option linter.unusedVariables false
set_option linter.unusedSimpArgs false
namespace Go.Proofs.YtfcfmpdpjmbcnaaGreat
open Go.RowKit
set_option maxRecDepth 20000

theorem ex_rest : (Mon.mk 1 1 2 1).restR 8 = (7, 0) := by
  obtain ⟨m, hm⟩ : ∃ m, m = Mon.mk 1 1 2 1 := ⟨_, rfl⟩
  rw [← hm]
  have hd : m.d = 1 := by rw [hm]
  have hcr : ∀ y, m.cr y = (Mon.mk 1 1 2 1).cr y := by rw [hm]; intro y; rfl
  obtain ⟨f, hf⟩ : ∃ f : Nat → Int, f = fun _ => 8 := ⟨_, rfl⟩
  have st (t : Nat) (y c d : Int) (h1 : m.out f t = y) (h2 : m.cor f (t + 1) = c) (h3 : c - (Mon.mk 1 1 2 1).cr y = d) : m.cor f (t + 1 + 1) = d := by
    rw [m.cor_ge f (t := t + 1) (by omega), h2, hd, Nat.add_sub_cancel, h1, hcr, h3]
  have o (t : Nat) (c d : Int) (h : m.cor f t = c) (hd : 8 + c = d) : m.out f t = d := by
    show f t + m.cor f t = d
    rw [h, hf, hd]
  have c0 : m.cor f 0 = 0 := rfl
  have c1 : m.cor f 1 = 0 := m.cor_lt f (t := 0) (by omega)
  have o0 := o 0 _ 8 c0 rfl
  have o1 := o 1 _ 8 c1 rfl
  have c2 := st 0 8 0 (-4) o0 c1 (by decide)
  have o2 := o 2 _ 4 c2 rfl
  have c3 := st 1 8 (-4) (-8) o1 c2 (by decide)
  have o3 := o 3 _ 0 c3 rfl
  have c4 := st 2 4 (-8) (-10) o2 c3 (by decide)
  have o4 := o 4 _ (-2) c4 rfl
  have c5 := st 3 0 (-10) (-10) o3 c4 (by decide)
  have o5 := o 5 _ (-2) c5 rfl
  have c6 := st 4 (-2) (-10) (-9) o4 c5 (by decide)
  have o6 := o 6 _ (-1) c6 rfl
  have c7 := st 5 (-2) (-9) (-8) o5 c6 (by decide)
  have o7 := o 7 _ 0 c7 rfl
  have c8 := st 6 (-1) (-8) (-8) o6 c7 (by decide)
  have o8 := o 8 _ 0 c8 rfl
  have c9 := st 7 0 (-8) (-8) o7 c8 (by decide)
  have o9 := o 9 _ 0 c9 rfl
  have ho : m.o 8 = m.out f := by rw [hf]; rfl
  have hc : cst (m.o 8) 7 (m.d + 2) := fun j hj => by
    rw [ho]
    obtain rfl | rfl | rfl : j = 0 ∨ j = 1 ∨ j = 2 := by omega
    · rfl
    · rw [o7]; exact o8
    · rw [o7]; exact o9
  have hr := m.rest_of (D := 8) (r := 7) (by omega) hc (.inr (by rw [ho, o7, o6]; decide))
  have hb : bigO (m.o 8) 501 = false := bigO_false.2 fun t ht => by
    by_cases h7 : 7 ≤ t
    · have h8 := (m.rest_some hr).2.1 (t - 7)
      rw [show 7 + (t - 7) = t by omega, ho, o7] at h8
      rw [ho, h8]; decide
    · rw [ho]
      obtain rfl | rfl | rfl | rfl | rfl | rfl | rfl : t = 0 ∨ t = 1 ∨ t = 2 ∨ t = 3 ∨ t = 4 ∨ t = 5 ∨ t = 6 := by omega
      · rw [o0]; decide
      · rw [o1]; decide
      · rw [o2]; decide
      · rw [o3]; decide
      · rw [o4]; decide
      · rw [o5]; decide
      · rw [o6]; decide
  unfold Mon.restR
  rw [hb, hr]; rfl

end Go.Proofs.YtfcfmpdpjmbcnaaGreat
