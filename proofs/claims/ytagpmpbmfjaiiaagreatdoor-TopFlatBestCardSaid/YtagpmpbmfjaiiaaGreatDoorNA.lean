/- Merged: XNc XNg. -/
import Derived.Test.YtagpmpbmfjaiiaaGreatDoorM9
import Derived.Laws.CopyRow
import Derived.Lib.AppendZeros
set_option linter.unusedVariables false
set_option linter.unusedSimpArgs false
/- Parts of slices of the call's own; copy. Nothing of the program. -/
namespace Go.Proofs.YtagpmpbmfjaiiaaGreatDoor
open Go.RowKit

section
variable {P : Program} {ops : Array Oper} {l : List Oper} {F : Nat → AV} {M : Nat → Option Blk} {K : List Rec → AS → Prop} {op : Op} {ty : TypeId} {ps : String} {af : Array Edge}
end
section
variable {P : Program} {s : AS} {dst : Option Tmp} {ty : TypeId} {ps : String} {af : Array Edge} {t : TypeId} {x y : Operand} {k : IntKind}
theorem o_sliceOH {n nm off len sz h : Nat} [ht : IdxI P t false n sz] (hx : s.ev x = .lsl nm off len sz) (hy : s.ev y = .d (.val (.int k (h : Int)))) (hl : h ≤ len) (gd : Option (Nat × Bool)) : Does P ⟨dst, .slice t x none (some y) none, ty, ps, af, gd⟩ s [] (.put (.lsl nm off h sz)) :=
  does_pure fun c s' φ a w hR hop => by
    obtain ⟨cap, e1, h1, h2, h3⟩ := ge_lsl hR (hop x (by simp [Op.operands])) hx
    have e2 := ge_val hR (hop y (by simp [Op.operands])) hy
    obtain ⟨e, i, hu, hi, hsz⟩ := idxOf_parts ht.eq
    have hrun := run_slice1 (A := some ⟨(φ nm).1, off, none⟩) (len := len) (cap := cap) (k := k) hu hi hsz (show (0 : Int) ≤ (h : Int) by omega) (show (h : Int) ≤ cap by omega) w
    refine ⟨_, ?_, ⟨cap, rfl, by omega, h2, h3⟩⟩
    simp only [execOp, e1, e2, Option.map_none, Option.map_some, Sem.run_bind, hrun, Result.andThen_ok, Sem.run_pure, Int.toNat_natCast]
    by_cases hc : cap = 0
    · rw [if_pos hc]
    · rw [if_neg hc]
      simp [addr_add]
end

end Go.Proofs.YtagpmpbmfjaiiaaGreatDoor

/- append of a made slice to nil, and what goes with it (slices.Grow). Nothing of the program. -/
namespace Go.Proofs.YtagpmpbmfjaiiaaGreatDoor
open Go.RowKit
section
variable {P : Program} {s : AS} {dst : Option Tmp} {ty : TypeId} {ps : String} {af : Array Edge} {t t' : TypeId} {x y : Operand} {k : IntKind}

theorem o_capN {e : TypeId} [ht : UndI P t (.slice e)] (hx : s.ev x = .d (.val (.slice none 0 0))) (gd : Option (Nat × Bool)) : Does P ⟨dst, .call ⟨.builtin .cap, #[x], #[t]⟩, ty, ps, af, gd⟩ s [] (.put (.d (.val (.int .i64 0)))) :=
  does_pure fun c s' φ a w hR hop => by
    have e1 := ge_val hR (hop x (by simp [Op.operands, Call.operands])) hx
    refine ⟨_, ?_, (rep_val (ok := okOf c φ s') (w := w)).2 rfl⟩
    simp [execOp, resolve, invoke, builtin, e1, Builtin.cap_, run_underlying ht.eq, goInt]
theorem o_sliceNH {n sz : Nat} [ht : IdxI P t false n sz] (hx : s.ev x = .d (.val (.slice none 0 0))) (hy : s.ev y = .d (.val (.int k 0))) (gd : Option (Nat × Bool)) : Does P ⟨dst, .slice t x none (some y) none, ty, ps, af, gd⟩ s [] (.put (.d (.val (.slice none 0 0)))) :=
  does_pure fun c s' φ a w hR hop => by
    have e1 := ge_val hR (hop x (by simp [Op.operands])) hx
    have e2 := ge_val hR (hop y (by simp [Op.operands])) hy
    obtain ⟨e, i, hu, hi, hsz⟩ := idxOf_parts ht.eq
    have hrun := run_slice1 (A := none) (len := 0) (cap := 0) (k := k) hu hi hsz (show (0 : Int) ≤ ((0 : Nat) : Int) by omega) (show ((0 : Nat) : Int) ≤ (0 : Nat) by omega) w
    refine ⟨_, ?_, (rep_val (ok := okOf c φ s') (w := w)).2 rfl⟩
    simp only [execOp, e1, e2, Option.map_none, Option.map_some, Sem.run_bind]
    have hrun' : (Instr.sliceAt t (.slice none 0 0) none (some (.int k 0)) none).run P w = .ok (.slice none 0 0) w := by
      refine hrun.trans ?_
      simp
    rw [hrun']
    rfl
/-- append(nil, make([]T, n)...): an own slice of whose cells nothing is said. -/
theorem o_appZ {d e sz bytes m : Nat} {zs : List Value} [ht : SliI P t e sz bytes zs] [hn : UndI P t' (.int k)] (hx : s.ev x = .d (.val (.slice none 0 0))) (hy : s.ev y = .d (.val (.int .i64 (m : Int)))) (hpos : 0 < m) (hb : m * bytes ≤ 140737488355328) (hb2 : m ≤ 140737488355328) (gd : Option (Nat × Bool)) :
    Does P ⟨some d, .call ⟨.builtin .append, #[x, y], #[t, t']⟩, ty, ps, af, gd⟩ s [] (.newBlk ⟨e, []⟩ (.lsl d 0 m sz)) :=
  ⟨fun c s' φ a w K Q hR hop hrd hd _ hK => by
    obtain ⟨i, z, hu, hi, hz, hsz, hby, hzc, hzs, hpos2, ho⟩ := sliOf_parts ht.eq
    have e1 := ge_val hR (hop x (by simp [Op.operands, Call.operands])) hx
    have e2 := ge_val hR (hop y (by simp [Op.operands, Call.operands])) hy
    have hrun := Lib.run_append_nil_zeros (P := P) w t t' ty e i z .i64 k hu hn.eq hi hz m hpos (by rw [hsz]; exact hpos2) (by omega) (by rw [hby]; omega)
    have hge := grownCap_ge w m 0 e
    have hcm : grownCap w m 0 e ≤ maxLen := grownCap_le_maxLen w m 0 e (by unfold maxLen; omega)
    obtain ⟨cap, hcap⟩ : ∃ cap, cap = grownCap w m 0 e := ⟨_, rfl⟩
    obtain ⟨w', hw'⟩ : ∃ w', w' = w.drew.alloc (.cells (Builtin.zeroCells z.cells m ++ Builtin.zeroCells z.cells (grownCap w m 0 e - m)) e) := ⟨_, rfl⟩
    rw [← hw'] at hrun
    rw [← hcap] at hrun hge hcm
    unfold Oper.wp
    have hrun2 : (execOp a.eval ⟨some d, .call ⟨.builtin .append, #[x, y], #[t, t']⟩, ty, ps, af, gd⟩).run P w = .ok (.value (.slice (some ⟨w.heap.size, 0, none⟩) m cap)) w' := by
      simp only [execOp, resolve, invoke, builtin, Sem.run_bind, Sem.run_pure, Result.andThen_ok, List.map_toArray, List.map_cons, List.map_nil, e1, e2, hrun]
    rw [hrun2]
    have hb3 : Below w.heap.size w w' := by rw [hw']; exact ((Below.refl _ w).drew).alloc (Nat.le_refl _) _
    refine hK _ _ _ (hR.newBlk hb3 (hd d rfl) (Nat.le_refl _) (n := cap * sz) ⟨[], (Builtin.zeroCells z.cells m ++ Builtin.zeroCells z.cells (cap - m)).toList, ?_, ?_, ?_, repL_nil.2 rfl⟩ ?_)
    · rw [hw', ← hcap]
      exact heap_alloc_new w.drew _
    · simp only [List.nil_append, Array.toList_append, List.length_append, Array.length_toList, size_zeroCells, hzs, ← Nat.add_mul]
      congr 1
      omega
    · exact fun u hu => absurd hu List.not_mem_nil
    · refine ⟨cap, ?_, hge, hcm, ?_⟩
      · rw [upd_same]
      · rw [upd_same]; simp⟩
end

end Go.Proofs.YtagpmpbmfjaiiaaGreatDoor
