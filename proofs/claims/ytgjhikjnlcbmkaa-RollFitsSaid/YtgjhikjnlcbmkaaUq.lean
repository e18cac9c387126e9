/- Items of several cells in blocks of the call's own. Nothing of the program. -/
import Derived.Test.YtgjhikjnlcbmkaaPb
import Derived.Test.YtgjhikjnlcbmkaaM9
set_option linter.unusedVariables false
set_option linter.unusedSimpArgs false
namespace Go.Proofs.Ytgjhikjnlcbmkaa
open Go.RowKit
set_option maxRecDepth 20000
set_option maxHeartbeats 8000000

section
variable {P : Program} {s : AS} {dst : Option Tmp} {ty : TypeId} {ps : String} {af : Array Edge} {t : TypeId} {x y : Operand}
theorem flat_setA {α : Type} (f : α → List DV) (sz : Nat) (hf : ∀ a, (f a).length = sz) (y : α) : ∀ (xs : List α) (i : Nat), i < xs.length → spl (xs.map f).flatten (i * sz) (f y) = ((xs.set i y).map f).flatten
  | x :: xs, 0, _ => by
    have h1 := hf x
    have h2 := hf y
    rw [Nat.zero_mul, List.set_cons_zero, List.map_cons, List.flatten_cons, List.map_cons, List.flatten_cons]
    unfold spl
    rw [h2, Nat.zero_add, List.take_zero, List.nil_append, List.drop_append, h1, Nat.sub_self, List.drop_zero, List.drop_of_length_le (by omega), List.nil_append]
  | x :: xs, i + 1, hi => by
    have hl := hf x
    have ih := flat_setA f sz hf y xs i (by simpa using hi)
    have e : (i + 1) * sz = (f x).length + i * sz := by rw [hl, Nat.add_mul]; omega
    rw [e, List.set_cons_succ, List.map_cons, List.flatten_cons, List.map_cons, List.flatten_cons, ← ih]
    unfold spl
    rw [List.take_length_add_append, Nat.add_assoc, List.drop_length_add_append]
    simp
theorem o_loadFA {α : Type} {nm off n : Nat} {b : TypeId} {xs : List α} {f : α → List DV} (d : α) (i : Nat) [h : TyI P t true n] (hf : ∀ a, (f a).length = n) (hx : s.ev x = .ptr nm off) (hm : s.mem nm = some ⟨b, (xs.map f).flatten⟩) (hoff : off = i * n) (hi : i < xs.length) (gd : Option (Nat × Bool)) :
    Does P ⟨dst, .load t x, ty, ps, af, gd⟩ s [nm] (.put (.d (.agg (f (xs.getD i d))))) := by
  have e : ((xs.map f).flatten.drop off) = f (xs.getD i d) ++ ((xs.drop (i + 1)).map f).flatten := by rw [hoff]; exact flat_drop f n hf d xs i hi
  have hn := hf (xs.getD i d)
  have h2 : ((xs.map f).flatten.drop off).take n = f (xs.getD i d) := by rw [e, List.take_append_of_le_length (by omega), List.take_of_length_le (by omega)]
  exact h2 ▸ does_load hx hm (.agg h.eq (by rw [e, List.length_append]; omega))
theorem o_storeFA {α : Type} {nm off n : Nat} {b : TypeId} {xs : List α} {f : α → List DV} (i : Nat) (z : α) [h : TyI P t true n] (hf : ∀ a, (f a).length = n) (hx : s.ev x = .ptr nm off) (hm : s.mem nm = some ⟨b, (xs.map f).flatten⟩) (hy : s.ev y = .d (.agg (f z))) (hoff : off = i * n) (hi : i < xs.length) (gd : Option (Nat × Bool)) :
    Does P ⟨dst, .store t x y, ty, ps, af, gd⟩ s [nm] (.setBlk nm ⟨b, ((xs.set i z).map f).flatten⟩) := by
  refine does_store hx hm hy rfl h.eq (hf z) ?_ ?_
  · show off + n ≤ ((xs.map f).flatten).length
    rw [flat_len f n hf, hoff]
    have : (i + 1) * n ≤ xs.length * n := Nat.mul_le_mul_right _ hi
    rw [Nat.add_mul] at this
    omega
  · rw [hoff]; exact flat_setA f n hf z xs i hi
theorem spl_one {α : Type} (v : α) : ∀ (D : List α) (i : Nat), i < D.length → spl D i [v] = D.set i v
  | x :: D, 0, _ => by simp [spl]
  | x :: D, i + 1, h => by
    have := spl_one v D i (by simpa using h)
    simp only [spl, List.length_singleton, List.take_succ_cons, List.cons_append, List.set_cons_succ] at this ⊢
    rw [show i + 1 + 1 = (i + 1) + 1 from rfl, List.drop_succ_cons, this]
theorem o_storeD {nm off : Nat} {b : TypeId} {D : List DV} {v : DV} [h : TyI P t false 1] (hx : s.ev x = .ptr nm off) (hm : s.mem nm = some ⟨b, D⟩) (hy : s.ev y = .d v) (hc : cellsOf v = some [v]) (hi : off < D.length) (gd : Option (Nat × Bool)) :
    Does P ⟨dst, .store t x y, ty, ps, af, gd⟩ s [nm] (.setBlk nm ⟨b, D.set off v⟩) :=
  does_store hx hm hy hc h.eq rfl hi (spl_one v D off hi)
theorem o_loadD {nm off : Nat} {b : TypeId} {D : List DV} {v : DV} {n : Nat} [h : TyI P t false n] (hx : s.ev x = .ptr nm off) (hm : s.mem nm = some ⟨b, D⟩) (hv : D[off]? = some v) (gd : Option (Nat × Bool)) :
    Does P ⟨dst, .load t x, ty, ps, af, gd⟩ s [nm] (.put (.d v)) :=
  does_load hx hm (.one h.eq (by show (D.drop off)[0]? = some v; rw [List.getElem?_drop, Nat.add_zero, hv]))
end

end Go.Proofs.Ytgjhikjnlcbmkaa
