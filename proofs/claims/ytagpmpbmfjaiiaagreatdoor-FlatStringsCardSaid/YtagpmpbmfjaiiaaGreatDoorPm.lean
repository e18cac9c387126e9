/- Arrays of booleans. -/
import Derived.Test.YtagpmpbmfjaiiaaGreatDoorPb
set_option linter.unusedVariables false
set_option linter.unusedSimpArgs false
namespace Go.Proofs.YtagpmpbmfjaiiaaGreatDoor
open Go.RowKit
set_option maxRecDepth 20000

/-- The cells of an array of booleans. -/
def bls (f : Nat → Bool) (n : Nat) : List DV := (List.range n).map fun i => B (f i)
def updB (f : Nat → Bool) (o : Nat) (v : Bool) (i : Nat) : Bool := bif Nat.beq i o then v else f i
theorem bls_len (f : Nat → Bool) (n : Nat) : (bls f n).length = n := by simp [bls]
theorem bls_get (f : Nat → Bool) {n o : Nat} (h : o < n) : ((bls f n).drop o)[0]? = some (B (f o)) := by
  unfold bls
  rw [List.getElem?_drop, List.getElem?_map, List.getElem?_range (by omega)]
  rfl
theorem bls_set (f : Nat → Bool) {n o : Nat} (h : o < n) (v : Bool) : spl (bls f n) o [B v] = bls (updB f o v) n := by
  have hl : (spl (bls f n) o [B v]).length = n := by simp [spl, bls]; omega
  apply List.ext_getElem?
  intro i
  unfold spl
  by_cases h1 : i < o
  · rw [List.append_assoc, List.getElem?_append_left (by simp [bls]; omega), List.getElem?_take_of_lt h1]
    have hb : Nat.beq i o = false := by
      cases hb : Nat.beq i o
      · rfl
      · have := Nat.eq_of_beq_eq_true hb; omega
    have e : updB f o v i = f i := by unfold updB; rw [hb]; rfl
    unfold bls
    rw [List.getElem?_map, List.getElem?_map, List.getElem?_range (by omega)]
    show some (B (f i)) = some (B (updB f o v i))
    rw [e]
  · by_cases h2 : i = o
    · subst h2
      rw [List.append_assoc, List.getElem?_append_right (by simp [bls]; omega)]
      have e : updB f i v i = v := by unfold updB; rw [Nat.beq_refl]; rfl
      have hlen : (List.take i (bls f n)).length = i := by simp [bls]; omega
      rw [hlen, Nat.sub_self]
      unfold bls
      rw [List.getElem?_map, List.getElem?_range (by omega)]
      show some (B v) = some (B (updB f i v i))
      rw [e]
    · have hlen : (List.take o (bls f n) ++ [B v]).length = o + 1 := by simp [bls]; omega
      rw [List.getElem?_append_right (by rw [hlen]; omega), hlen, List.getElem?_drop]
      have hb : Nat.beq i o = false := by
        cases hb : Nat.beq i o
        · rfl
        · exact absurd (Nat.eq_of_beq_eq_true hb) h2
      have e : updB f o v i = f i := by unfold updB; rw [hb]; rfl
      have hi : o + [B v].length + (i - (o + 1)) = i := by simp; omega
      rw [hi]
      unfold bls
      rw [List.getElem?_map, List.getElem?_map]
      cases hr : (List.range n)[i]? with
      | none => rfl
      | some j =>
        have hj : j = i := by
          obtain ⟨h3, h4⟩ := List.getElem?_eq_some_iff.1 hr
          rw [List.getElem_range] at h4; exact h4.symm
        subst hj
        show some (B (f j)) = some (B (updB f o v j))
        rw [e]
section
variable {P : Program} {s : AS} {dst : Option Tmp} {ty : TypeId} {ps : String} {af : Array Edge} {t : TypeId} {x y : Operand}
theorem o_storeB {nm off n : Nat} {b : TypeId} {f : Nat → Bool} {v : Bool} [h : TyI P t false 1] (hx : s.ev x = .ptr nm off) (hm : s.mem nm = some ⟨b, bls f n⟩) (hy : s.ev y = .d (B v)) (hj : off < n) (gd : Option (Nat × Bool)) :
    Does P ⟨dst, .store t x y, ty, ps, af, gd⟩ s [nm] (.setBlk nm ⟨b, bls (updB f off v) n⟩) :=
  does_store hx hm hy rfl h.eq rfl (by show off + 1 ≤ (bls f n).length; rw [bls_len]; omega) (bls_set f hj v)
theorem o_loadB {nm off n : Nat} {b : TypeId} {f : Nat → Bool} [h : TyI P t false 1] (hx : s.ev x = .ptr nm off) (hm : s.mem nm = some ⟨b, bls f n⟩) (hj : off < n) (gd : Option (Nat × Bool)) :
    Does P ⟨dst, .load t x, ty, ps, af, gd⟩ s [nm] (.put (.d (B (f off)))) := o_load1 (h := h) hx hm (bls_get f hj) gd
end

end Go.Proofs.YtagpmpbmfjaiiaaGreatDoor
