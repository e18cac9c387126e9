/- A slice that is not nil. -/
import Derived.Test.YtagpmpbmfjaiiaaGreatDoorPb
set_option linter.unusedVariables false
set_option linter.unusedSimpArgs false
namespace Go.Proofs.YtagpmpbmfjaiiaaGreatDoor
open Go.RowKit
section
variable {P : Program} {s : AS} {dst : Option Tmp} {ty : TypeId} {ps : String} {af : Array Edge} {t t' : TypeId} {x y : Operand} {e : TypeId}
theorem o_nenS {A : Option Addr} {l c : Nat} [ht : UndI P t (.slice e)] (hx : s.ev x = .d (.val (.slice A l c))) (hy : s.ev y = .d (.val (.slice none 0 0))) (gd : Option (Nat × Bool)) : Does P ⟨dst, .binOp .neq t x y t', ty, ps, af, gd⟩ s [] (.put (.d (.val (.bool (!A.isNone))))) :=
  does_bin hx hy fun w => by
    have e1 : (eqGuard .neq t x y (.slice A l c) (.slice none 0 0)).run P w = .ok () w := by unfold eqGuard; rfl
    rw [Sem.run_bind, e1, Result.andThen_ok]
    simp [binOp, run_equal_slice_nil w t e A l c ht.eq]
theorem o_nenD {n : Nat} {cs : List DV} [ht : UndI P t (.slice e)] (hx : s.ev x = .d (.slice n cs)) (hne : cs ≠ []) (hy : s.ev y = .d nilV) (gd : Option (Nat × Bool)) : Does P ⟨dst, .binOp .neq t x y t', ty, ps, af, gd⟩ s [] (.put (.d (.val (.bool true)))) :=
  does_pure fun c s' φ a w hR hop => by
    have h1 := ge_d hR (hop x (by simp [Op.operands])) hx
    have h2 := ge_val hR (hop y (by simp [Op.operands])) hy
    rw [DV.rep] at h1
    obtain ⟨A, cap, h1, _, _, h3⟩ := h1
    obtain ⟨b, o, vs, rfl, _⟩ := h3 hne
    refine ⟨.bool true, ?_, (rep_val (ok := okOf c φ s') (w := w)).2 rfl⟩
    have e1 : (eqGuard .neq t x y (.slice (some ⟨b, o, none⟩) n cap) (.slice none 0 0)).run P w = .ok () w := by unfold eqGuard; rfl
    have e2 : (binOp .neq t (.slice (some ⟨b, o, none⟩) n cap) (.slice none 0 0)).run P w = .ok (.bool true) w := by simp [binOp, run_equal_slice_nil w t e _ n cap ht.eq]
    simp only [execOp, h1, h2, Sem.run_bind, e1, e2, Sem.run_pure, Result.andThen_ok]
end

end Go.Proofs.YtagpmpbmfjaiiaaGreatDoor
