/- Made slices as values. Nothing of the program. -/
import Derived.Test.YtfcfmpdpjmbcnaaGreatNd
set_option linter.unusedVariables false
set_option linter.unusedSimpArgs false
namespace Go.Proofs.YtfcfmpdpjmbcnaaGreat
open Go.RowKit

section
variable {P : Program} {s : AS} {dst : Option Tmp} {ty : TypeId} {ps : String} {af : Array Edge} {t : TypeId} {x y : Operand} {k : IntKind}
/-- A made slice that is never written. -/
theorem o_makeSlD {e sz bytes n : Nat} {zs : List Value} [ht : SliI P t e sz bytes zs] (hx : s.ev x = .d (.val (.int k n))) (hb : n * bytes ≤ 140737488355328) (hb2 : n ≤ 140737488355328) {r : List DV} (hr : (zeros zs (n * sz)).map DV.val = r) (gd : Option (Nat × Bool)) :
    Does P ⟨dst, .makeSlice t x x, ty, ps, af, gd⟩ s [] (.put (.d (.slice n r))) :=
  ⟨fun c s' φ a w K Q hR hop _ hd _ hK => by
    obtain ⟨i, z, hu, hi, hz, hsz, hby, hzc, hzs, hpos, ho⟩ := sliOf_parts ht.eq
    have e1 := ge_val hR (hop x (by simp [Op.operands])) hx
    subst hr
    have hzl : zs.length = sz := by rw [← hzc]; simpa using hzs
    have hz0 : (madeCells z.cells (n * sz)).toList = zeros zs (n * sz) := by
      unfold madeCells zeros
      rw [Array.toList_map, Array.toList_range]
      refine List.map_congr_left fun j _ => ?_
      have hlt : j % z.cells.size < z.cells.size := Nat.mod_lt _ (by omega)
      rw [← hzc]
      simp [hlt]
    have hzo : Ones (zeros zs (n * sz)) := by
      intro u hu2
      unfold zeros at hu2
      obtain ⟨j, _, rfl⟩ := List.mem_map.1 hu2
      have hlt : j % zs.length < zs.length := Nat.mod_lt _ (by omega)
      rw [List.getD_eq_getElem?_getD, List.getElem?_eq_getElem hlt]
      exact ho _ (List.getElem_mem hlt)
    have hmx : n ≤ maxLen := by unfold maxLen; omega
    have hby2 : ((i.bytes : Int) * (n : Int)) ≤ 281474976710656 := by
      have : i.bytes * n ≤ 281474976710656 := by rw [hby, Nat.mul_comm]; omega
      have h3 : ((i.bytes * n : Nat) : Int) ≤ 281474976710656 := by omega
      rwa [Int.natCast_mul] at h3
    have hrun := run_make (P := P) w t e i z hu hi hz k k (n : Int) (n : Int) (by omega) (Int.le_refl _) hby2 (by omega)
    unfold Oper.wp
    have hrun2 : (execOp a.eval ⟨dst, .makeSlice t x x, ty, ps, af, gd⟩).run P w = .ok (.value (.slice (some ⟨w.heap.size, 0, none⟩) n n)) (w.alloc (.cells (madeCells z.cells (n * sz)) e)) := by
      rw [Int.toNat_natCast, hsz] at hrun
      simp only [execOp, e1, Sem.run_bind, hrun, Result.andThen_ok, Sem.run_pure]
    rw [hrun2]
    have hbel : Below w.heap.size w (w.alloc (.cells (madeCells z.cells (n * sz)) e)) := (Below.refl _ _).alloc (Nat.le_refl _) _
    have hR' := hR.below' hbel
    refine hK φ _ _ (hR'.put hd ?_)
    show DV.rep _ _ (.slice n ((zeros zs (n * sz)).map DV.val)) _
    rw [DV.rep]
    refine ⟨_, n, rfl, Nat.le_refl _, hmx, fun hne => ⟨w.heap.size, 0, (madeCells z.cells (n * sz)).toList, rfl, .inr ⟨.inl hR.below.size, fun nm hnm => ?_⟩, by simp, ?_, by rw [hz0]; exact hzo, ?_⟩⟩
    · have := hR.lt hnm
      omega
    · intro j u hj
      have hheap : (w.alloc (.cells (madeCells z.cells (n * sz)) e)).heap[w.heap.size]? = some (.cells (madeCells z.cells (n * sz)) e (0, 0)) := by
        show (w.heap.push _)[w.heap.size]? = _
        simp
      have hc := cell_of_row (w.alloc (.cells (madeCells z.cells (n * sz)) e)) w.heap.size (0 + j) (madeCells z.cells (n * sz)) e (0, 0) hheap
      rw [hc]
      simpa using hj
    · rw [hz0]; exact repL_vals _⟩
end


end Go.Proofs.YtfcfmpdpjmbcnaaGreat
