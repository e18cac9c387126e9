/- Items of several cells in blocks of the call's own. Nothing of the program. -/
import Derived.Test.YtfcfmpdpjmbcnaaGreatDoorPb
import Derived.Test.YtfcfmpdpjmbcnaaGreatDoorM9
import Derived.Test.YtfcfmpdpjmbcnaaGreatDoorUv
set_option linter.unusedVariables false
set_option linter.unusedSimpArgs false
namespace Go.Proofs.YtfcfmpdpjmbcnaaGreatDoor
open Go.RowKit
set_option maxRecDepth 20000
set_option maxHeartbeats 8000000

section
variable {P : Program} {s : AS} {dst : Option Tmp} {ty : TypeId} {ps : String} {af : Array Edge} {t : TypeId} {x y : Operand}
theorem flat_get {α : Type} (f : α → List DV) (sz : Nat) (hf : ∀ a, (f a).length = sz) (d : α) {xs : List α} {i r : Nat} (hi : i < xs.length) (hr : r < sz) : ((xs.map f).flatten.drop (i * sz + r))[0]? = (f (xs.getD i d))[r]? := by
  rw [← List.drop_drop, flat_drop f sz hf d xs i hi, List.getElem?_drop, List.getElem?_append_left (by rw [hf]; omega)]; rfl
theorem flat_set {α : Type} (f : α → List DV) (sz : Nat) (hf : ∀ a, (f a).length = sz) (d y : α) (v : DV) : ∀ (xs : List α) (i r : Nat), i < xs.length → r < sz → f y = (f (xs.getD i d)).set r v → spl (xs.map f).flatten (i * sz + r) [v] = ((xs.set i y).map f).flatten
  | x :: xs, 0, r, _, hr, hy => by
    have hl := hf x
    have hy : f y = (f x).set r v := hy
    rw [Nat.zero_mul, Nat.zero_add, List.set_cons_zero, List.map_cons, List.flatten_cons, List.map_cons, List.flatten_cons, hy]
    unfold spl
    rw [List.length_singleton, List.take_append_of_le_length (by omega), List.drop_append_of_le_length (by omega), List.set_eq_take_append_cons_drop, if_pos (by omega)]
    simp
  | x :: xs, i + 1, r, hi, hr, hy => by
    have hl := hf x
    have ih := flat_set f sz hf d y v xs i r (by simpa using hi) hr hy
    have e : (i + 1) * sz + r = (f x).length + (i * sz + r) := by rw [hl, Nat.add_mul]; omega
    rw [e, List.set_cons_succ, List.map_cons, List.flatten_cons, List.map_cons, List.flatten_cons, ← ih]
    unfold spl
    rw [List.length_singleton, List.take_length_add_append, Nat.add_assoc, List.drop_length_add_append]
    simp
theorem o_loadF {α : Type} {nm off n sz : Nat} {b : TypeId} {xs : List α} {f : α → List DV} (d : α) (i r : Nat) [h : TyI P t false n] (hf : ∀ a, (f a).length = sz) (hx : s.ev x = .ptr nm off) (hm : s.mem nm = some ⟨b, (xs.map f).flatten⟩) (hoff : off = i * sz + r) (hi : i < xs.length) (hr : r < sz) {v : DV} (hv : (f (xs.getD i d))[r]? = some v) (gd : Option (Nat × Bool)) :
    Does P ⟨dst, .load t x, ty, ps, af, gd⟩ s [nm] (.put (.d v)) :=
  does_load hx hm (.one h.eq (by show ((xs.map f).flatten.drop off)[0]? = some v; rw [hoff, flat_get f sz hf d hi hr, hv]))
theorem o_storeF {α : Type} {nm off sz : Nat} {b : TypeId} {xs : List α} {f : α → List DV} (d : α) (i r : Nat) {v : DV} {cs : List DV} (z : α) [h : TyI P t false 1] (hf : ∀ a, (f a).length = sz) (hx : s.ev x = .ptr nm off) (hm : s.mem nm = some ⟨b, (xs.map f).flatten⟩) (hy : s.ev y = .d v) (hc : cellsOf v = some cs) (hc1 : cs = [v]) (hoff : off = i * sz + r) (hi : i < xs.length) (hr : r < sz) (hz : f z = (f (xs.getD i d)).set r v) (gd : Option (Nat × Bool)) :
    Does P ⟨dst, .store t x y, ty, ps, af, gd⟩ s [nm] (.setBlk nm ⟨b, ((xs.set i z).map f).flatten⟩) := by
  subst hc1
  refine does_store hx hm hy hc h.eq rfl ?_ ?_
  · show off + 1 ≤ ((xs.map f).flatten).length
    rw [flat_len f sz hf, hoff]
    have : (i + 1) * sz ≤ xs.length * sz := Nat.mul_le_mul_right _ hi
    rw [Nat.add_mul] at this
    omega
  · rw [hoff]; exact flat_set f sz hf d z v xs i r hi hr hz
theorem flat_setA {α : Type} (f : α → List DV) (sz : Nat) (hf : ∀ a, (f a).length = sz) (y : α) : ∀ (xs : List α) (i : Nat), i < xs.length → spl (xs.map f).flatten (i * sz) (f y) = ((xs.set i y).map f).flatten
  | x :: xs, 0, _ => by
    have h1 := hf x
    have h2 := hf y
    rw [Nat.zero_mul, List.set_cons_zero, List.map_cons, List.flatten_cons, List.map_cons, List.flatten_cons]
    unfold spl
    rw [h2, Nat.zero_add, List.take_zero, List.nil_append, List.drop_append, h1, Nat.sub_self, List.drop_zero, List.drop_of_length_le (by omega), List.nil_append]
  | x :: xs, i + 1, hi => by
    have hl := hf x
    have ih := flat_setA f sz hf y xs i (by simpa using hi)
    have e : (i + 1) * sz = (f x).length + i * sz := by rw [hl, Nat.add_mul]; omega
    rw [e, List.set_cons_succ, List.map_cons, List.flatten_cons, List.map_cons, List.flatten_cons, ← ih]
    unfold spl
    rw [List.take_length_add_append, Nat.add_assoc, List.drop_length_add_append]
    simp
theorem o_storeFA {α : Type} {nm off n : Nat} {b : TypeId} {xs : List α} {f : α → List DV} (i : Nat) (z : α) [h : TyI P t true n] (hf : ∀ a, (f a).length = n) (hx : s.ev x = .ptr nm off) (hm : s.mem nm = some ⟨b, (xs.map f).flatten⟩) (hy : s.ev y = .d (.agg (f z))) (hoff : off = i * n) (hi : i < xs.length) (gd : Option (Nat × Bool)) :
    Does P ⟨dst, .store t x y, ty, ps, af, gd⟩ s [nm] (.setBlk nm ⟨b, ((xs.set i z).map f).flatten⟩) := by
  refine does_store hx hm hy rfl h.eq (hf z) ?_ ?_
  · show off + n ≤ ((xs.map f).flatten).length
    rw [flat_len f n hf, hoff]
    have : (i + 1) * n ≤ xs.length * n := Nat.mul_le_mul_right _ hi
    rw [Nat.add_mul] at this
    omega
  · rw [hoff]; exact flat_setA f n hf z xs i hi
theorem spl_one {α : Type} (v : α) : ∀ (D : List α) (i : Nat), i < D.length → spl D i [v] = D.set i v
  | x :: D, 0, _ => by simp [spl]
  | x :: D, i + 1, h => by
    have := spl_one v D i (by simpa using h)
    simp only [spl, List.length_singleton, List.take_succ_cons, List.cons_append, List.set_cons_succ] at this ⊢
    rw [show i + 1 + 1 = (i + 1) + 1 from rfl, List.drop_succ_cons, this]
theorem o_storeD {nm off : Nat} {b : TypeId} {D : List DV} {v : DV} [h : TyI P t false 1] (hx : s.ev x = .ptr nm off) (hm : s.mem nm = some ⟨b, D⟩) (hy : s.ev y = .d v) (hc : cellsOf v = some [v]) (hi : off < D.length) (gd : Option (Nat × Bool)) :
    Does P ⟨dst, .store t x y, ty, ps, af, gd⟩ s [nm] (.setBlk nm ⟨b, D.set off v⟩) :=
  does_store hx hm hy hc h.eq rfl hi (spl_one v D off hi)
theorem o_loadD {nm off : Nat} {b : TypeId} {D : List DV} {v : DV} {n : Nat} [h : TyI P t false n] (hx : s.ev x = .ptr nm off) (hm : s.mem nm = some ⟨b, D⟩) (hv : D[off]? = some v) (gd : Option (Nat × Bool)) :
    Does P ⟨dst, .load t x, ty, ps, af, gd⟩ s [nm] (.put (.d v)) :=
  does_load hx hm (.one h.eq (by show (D.drop off)[0]? = some v; rw [List.getElem?_drop, Nat.add_zero, hv]))
end

end Go.Proofs.YtfcfmpdpjmbcnaaGreatDoor
/- Loopers: a tick, and boxes after a tick. -/
set_option linter.unusedVariables false
set_option linter.unusedSimpArgs false
namespace Go.Proofs.YtfcfmpdpjmbcnaaGreatDoor
open Go.RowKit
set_option maxRecDepth 20000
set_option maxHeartbeats 8000000

abbrev rgS (B : List (Int × Int)) : List DV := (B.map frC).flatten
abbrev rgV (B : List (Int × Int)) : DV := .slice B.length (rgS B)
theorem frC_len (x : Int × Int) : (frC x).length = 2 := rfl
theorem rgS_len (B : List (Int × Int)) : (rgS B).length = B.length * 2 := flat_len frC 2 frC_len B
theorem rgS_snoc (B : List (Int × Int)) (r : Int × Int) : rgS B ++ [I r.1, I r.2] = rgS (B ++ [r]) := by simp [rgS]
theorem isIn_A (n a b : Int) : AC Tryz.prog 88 [I n, .agg [I a, I b]] (B (inR n a b)) := by
  refine ac_body Tryz.func88 rfl (by kernel_rfl) fun w0 ok => ?_; show AWp _ (ctx0 w0 ok _) _ (ARet _ _ _) (entry _)
  (repeat' (first | (with_reducible first | intro hg | refine mv (by constructor) ?_) | ((with_reducible first | refine zR ?_ ?_ | refine zW mixed ?_ ?_); exact kr) | ((with_reducible apply zK); exact rfl; exact tf) | ((with_reducible apply zCD); exact rfl) | ((with_reducible apply zCN); exact rfl) | ((with_reducible apply zC); exact rfl) | ((with_reducible refine zX ?_ ?_); exact rfl) | ((with_reducible refine zE (And.intro ?_ ?_)); exact kr) | (with_reducible refine zE ?_) | ((with_reducible apply zP); (first | exact dp | exact oc rfl (within_A _ _ _))) | ((with_reducible apply zN); exact dn) | ((with_reducible apply zA); exact da) | ((with_reducible apply zS); exact ds) | ((with_reducible apply zY); exact rfl; exact rfl; exact tf) | ((with_reducible apply zG); exact rfl; exact rfl; exact tf) | ((with_reducible apply zU); exact rfl; exact rfl) | ((with_reducible apply zD); exact rfl; exact rfl) | ((with_reducible apply zB); exact rfl; exact rfl)))
  ((with_reducible first | apply q_retR | apply q_retN); exact rl)
  rfl
/-! A box after a tick. -/
def BxS (L : List Lp) (B : List (Int × Int)) : Prop := B.length = L.length ∧ ∀ j, j < L.length → (-2000 ≤ bLo B j ∧ bLo B j ≤ 2000) ∧ (-2000 ≤ bHi B j ∧ bHi B j ≤ 2000)
end Go.Proofs.YtfcfmpdpjmbcnaaGreatDoor
