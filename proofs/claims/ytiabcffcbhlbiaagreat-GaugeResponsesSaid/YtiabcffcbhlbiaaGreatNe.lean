/- Structs that hold two slices of the call's own. Nothing of the program. -/
import Derived.Test.YtiabcffcbhlbiaaGreatNd
set_option linter.unusedVariables false
set_option linter.unusedSimpArgs false
namespace Go.Proofs.YtiabcffcbhlbiaaGreat
open Go.RowKit

section
variable {P : Program} {s : AS} {dst : Option Tmp} {ty : TypeId} {ps : String} {af : Array Edge} {t : TypeId} {x y : Operand}
theorem o_buildDep {i j n m l1 l2 : Nat} {zs : List Value} {ls : List (Nat × Nat)} [hz : ZroI P t zs] [hs : StrI P t ls] (hx : s.ev x = .lsl n 0 l1 1) (hy : s.ev y = .lsl m 0 l2 1) {g : Nat × Nat → Nat × Nat → List DV}
    (hr : ∀ p q : Nat × Nat, afill (fun i => ls[i]?) (zs.map DV.val) [(i, linkC p.1 p.2 l1), (j, linkC q.1 q.2 l2)] = some (g p q)) (gd : Option (Nat × Bool)) : Does P ⟨dst, .build t #[(i, x), (j, y)], ty, ps, af, gd⟩ s [] (.put (.dep n m fun p q => .agg (g p q))) :=
  does_pure fun c s' φ a w hR hop => by
    obtain ⟨z, hzr, hzc, hzo⟩ := zroOf_run hz.eq w
    obtain ⟨cap, e1, a1, a2, a3⟩ := ge_lsl hR (hop x (by simp [Op.operands])) hx
    obtain ⟨cap2, e2, b1, b2, b3⟩ := ge_lsl hR (hop y (by simp [Op.operands])) hy
    have a4 : (φ n).2 = cap := by rw [← a3]; omega
    have b4 : (φ m).2 = cap2 := by rw [← b3]; omega
    have h2 : DV.repL (okOf c φ s') w [linkC (φ n).1 (φ n).2 l1, linkC (φ m).1 (φ m).2 l2] [a.eval x, a.eval y] := by
      rw [a4, b4, e1, e2]
      exact repL_cons'.2 ⟨val_rep _ _ _, repL_cons'.2 ⟨val_rep _ _ _, repL_nil.2 rfl⟩⟩
    obtain ⟨us, h3, h4, h5⟩ := fill_sim (fun i => ls[i]?) [(i, linkC (φ n).1 (φ n).2 l1), (j, linkC (φ m).1 (φ m).2 l2)] [(i, a.eval x), (j, a.eval y)] _ z.cells (g (φ n) (φ m)) rfl h2 (by rw [hzc]; exact repL_vals zs) (by rw [hzc]; exact hzo) (hr _ _)
    refine ⟨.agg us, ?_, ?_⟩
    · have hs := hs.eq
      unfold strOf at hs
      cases hu : P.underlying t with
      | none => simp [hu] at hs
      | some d =>
        cases d <;> simp only [hu] at hs <;> try (cases hs; done)
        rename_i fs
        have hm := mapM_places (P := P) (w := w) fs.toList ls hs
        have hm2 : (fs.mapM (m := Sem) fun f => do pure (f.offset, ← sizeOf f.type)).run P w = .ok ls.toArray w := by
          rw [← Array.toArray_toList (xs := fs), List.mapM_toArray, Sem.run_map, hm]; rfl
        have hpl : (fun i : Nat => ls.toArray[i]?) = fun i : Nat => ls[i]? := by funext i; simp
        have hpa : ((#[(i, x), (j, y)] : Array (Nat × Operand)).map fun x => (x.1, a.eval x.2)).toList = [(i, a.eval x), (j, a.eval y)] := by simp
        simp only [execOp, Instr.build, Sem.run_bind, hzr, run_underlying hu w, Result.andThen_ok, hm2, hpl, hpa, h3, Sem.run_pure]
    · show DV.rep _ w _ _
      rw [DV.rep]
      exact ⟨us.toList, by simp, h4, h5⟩
end

theorem turns_dep2 {c : Fam} {s : AS} {k1 k2 : Blk} (t t1 t2 n m L1 L2 : Nat) {l1 l2 : Nat} {f : Nat × Nat → Nat × Nat → DV} (ht : s.fr t = .dep n m f) (h1 : s.fr t1 = .lsl n 0 l1 1) (h2 : s.fr t2 = .lsl m 0 l2 1) (htV : (Nat.blt t VG && Nat.blt t1 VG && Nat.blt t2 VG && Nat.ble PN L1 && Nat.ble PN L2 && !(Nat.beq L1 L2) && !(Nat.beq n m)) = true)
    (hm1 : s.mem n = some k1) (hm2 : s.mem m = some k2) (hL1 : s.mem L1 = none) (hL2 : s.mem L2 = none) :
    TurnsE c s fun (x : LkOk l1 × LkOk l2) => ⟨upd (fun i => (((upd (fun i => ((upd s.fr t (.d (f (x.1.1.1, x.1.1.2) (x.2.1.1, x.2.1.2))) i).kill n).kill L1) L1 (linkP x.1.1.1 x.1.1.2 1)) i).kill m).kill L2) L2 (linkP x.2.1.1 x.2.1.2 1),
      upd (upd (upd (upd s.mem n none) L1 (some k1)) m none) L2 (some k2)⟩ := fun φ a w ⟨c', hG, hR⟩ => by
  simp only [Bool.and_eq_true, Bool.not_eq_true', Nat.ble_eq, Nat.blt_eq] at htV
  obtain ⟨⟨⟨⟨⟨⟨v0, v1⟩, v2⟩, p1⟩, p2⟩, p3⟩, p4⟩ := htV
  have p3 := Nat.ne_of_beq_eq_false p3
  have p4 := Nat.ne_of_beq_eq_false p4
  have ltV : ∀ {i : Nat}, i < VG → i ≠ VG := fun h => Nat.ne_of_lt h
  obtain ⟨cap, e1, a1, a2, a3⟩ : (AV.lsl n 0 l1 1).rep (okOf c' φ s) φ w _ := by have := hR.fr t1 (ltV v1); rwa [h1] at this
  obtain ⟨cap2, e2, b1, b2, b3⟩ : (AV.lsl m 0 l2 1).rep (okOf c' φ s) φ w _ := by have := hR.fr t2 (ltV v2); rwa [h2] at this
  have a4 : φ n = ((φ n).1, cap) := Prod.ext rfl (by rw [← a3]; simp)
  have b4 : φ m = ((φ m).1, cap2) := Prod.ext rfl (by rw [← b3]; simp)
  have hR1 : R c' ⟨upd s.fr t (.d (f (φ n) (φ m))), s.mem⟩ φ a w := hR.slot v0 fun v hv => by rw [ht] at hv; exact hv
  have hR2 := hR1.rename (d := n) (L := L1) hm1 hL1 p1
  have nL : m ≠ L1 := fun e => by rw [e, hL1] at hm2; cases hm2
  have hm2' : upd (upd s.mem n none) L1 (some k1) m = some k2 := by rw [upd_ne _ _ nL, upd_ne _ _ (Ne.symm p4)]; exact hm2
  have nL2 : L2 ≠ n := fun e => by rw [← e, hL2] at hm1; cases hm1
  have hL2' : upd (upd s.mem n none) L1 (some k1) L2 = none := by rw [upd_ne _ _ (fun e => p3 e.symm), upd_ne _ _ nL2]; exact hL2
  have hR3 := hR2.rename (d := m) (L := L2) hm2' hL2' p2
  have hφ : upd φ L1 (φ n) m = φ m := upd_ne _ _ nL
  rw [hφ] at hR3
  have q1 : encP (φ n) = encP ((φ n).1, cap * 1) := by rw [Nat.mul_one, ← a4]
  have q2 : encP (φ m) = encP ((φ m).1, cap2 * 1) := by rw [Nat.mul_one, ← b4]
  refine ⟨(⟨((φ n).1, cap), a1, a2⟩, ⟨((φ m).1, cap2), b1, b2⟩), upd (upd φ L1 (φ n)) L2 (φ m), c', hG, ?_⟩
  dsimp only [linkP]
  rw [← q1, ← q2, ← a4, ← b4]
  exact hR3

end Go.Proofs.YtiabcffcbhlbiaaGreat
