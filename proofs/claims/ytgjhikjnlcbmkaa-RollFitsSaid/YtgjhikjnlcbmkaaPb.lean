/- Helpers: slices of items, stores into slices of numbers. -/
import Derived.Test.YtgjhikjnlcbmkaaPa
set_option linter.unusedVariables false
set_option linter.unusedSimpArgs false
namespace Go.Proofs.Ytgjhikjnlcbmkaa
open Go.RowKit
set_option maxRecDepth 20000

section
variable {P : Program} {s : AS} {dst : Option Tmp} {ty : TypeId} {ps : String} {af : Array Edge} {t : TypeId} {x y : Operand} {k : IntKind}
theorem flat_drop {α : Type} (f : α → List DV) (sz : Nat) (hf : ∀ a, (f a).length = sz) (d : α) : ∀ (xs : List α) (j : Nat), j < xs.length → (xs.map f).flatten.drop (j * sz) = f (xs.getD j d) ++ ((xs.drop (j + 1)).map f).flatten
  | x :: xs, 0, _ => by simp
  | x :: xs, j + 1, h => by
    have h1 : (j + 1) * sz = (f x).length + j * sz := by rw [hf, Nat.add_mul]; omega
    rw [List.map_cons, List.flatten_cons, h1, List.drop_append, List.drop_eq_nil_of_le (by omega), List.nil_append, Nat.add_sub_cancel_left]
    have := flat_drop f sz hf d xs j (by simpa using h)
    rw [this]; rfl
theorem flat_len {α : Type} (f : α → List DV) (sz : Nat) (hf : ∀ a, (f a).length = sz) (xs : List α) : (xs.map f).flatten.length = xs.length * sz := by
  induction xs with
  | nil => simp
  | cons x xs ih => rw [List.map_cons, List.flatten_cons, List.length_append, ih, hf, List.length_cons, Nat.add_mul]; omega
theorem spl_set (v : Int) : ∀ (xs : List Int) (j : Nat), j < xs.length → spl (xs.map I) j [I v] = (xs.set j v).map I
  | x :: xs, 0, _ => by simp [spl]
  | x :: xs, j + 1, h => by
    have := spl_set v xs j (by simpa using h)
    simp only [spl, List.length_singleton] at this ⊢
    rw [List.map_cons, List.take_succ_cons, List.drop_succ_cons, List.set_cons_succ, List.map_cons, ← this]
    rfl
theorem o_storeLI {nm off : Nat} {b : TypeId} {xs : List Int} {v : Int} [h : TyI P t false 1] (hx : s.ev x = .ptr nm off) (hm : s.mem nm = some ⟨b, xs.map I⟩) (hy : s.ev y = .d (I v)) (hj : off < xs.length) (gd : Option (Nat × Bool)) :
    Does P ⟨dst, .store t x y, ty, ps, af, gd⟩ s [nm] (.setBlk nm ⟨b, (xs.set off v).map I⟩) :=
  does_store hx hm hy rfl h.eq rfl (by show off + 1 ≤ (xs.map I).length; simp; omega) (spl_set v xs off hj)
end

end Go.Proofs.Ytgjhikjnlcbmkaa
