/- Calls whose result is told for some value alone (an error in a new block). Nothing of the program. -/
import Derived.Test.YtfcfmpdpjmbcnaaGreatDoorNs
set_option linter.unusedVariables false
set_option linter.unusedSimpArgs false
namespace Go.Proofs.YtfcfmpdpjmbcnaaGreatDoor
open Go.RowKit
set_option maxRecDepth 20000

/-- Called with values without addresses, f returns r x for some x and turns nothing that was there. -/
def ACe (P : Program) (f : FuncId) (args : List DV) {α : Type} (r : α → DV) : Prop :=
  ∀ (ok : Nat → Prop) (w : World) (vs : List Value), DV.repL ok w args vs → ∀ [GlobI w], Calls P f vs.toArray w fun e w' => ∃ x v, e = .returned v ∧ (r x).rep (fun b => ok b ∨ w.heap.size ≤ b) w' v ∧ Below w.heap.size w w'
theorem wpl_callE {P : Program} {ops : Array Oper} {c : Fam} {l : List Oper} {Q : Exit → AS → Prop} {s : AS} {d : Nat} {f : FuncId} {args : Array Operand} {ats : Array TypeId} {ty : TypeId} {ps : String} {af : Array Edge} {dvs : List DV} {α : Type} {r : α → DV} [he : EntI P f]
    (hv : viewL s args.toList = some (dvs, [])) (hA : ACe P f dvs r) (hd : dstsB c.nt [(⟨some d, .call ⟨.value (.func f), args, ats⟩, ty, ps, af, none⟩ : Oper)] = true)
    (h : ∀ x, WpL P ops c l Q ⟨upd s.fr d (.d (r x)), s.mem⟩) : WpL P ops c (⟨some d, .call ⟨.value (.func f), args, ats⟩, ty, ps, af, none⟩ :: l) Q s := ⟨fun pre hp φ a w ⟨c', hG, hR⟩ => by
  have hok := dstsB_spec (c := c') _ (by rw [(c.eq _ hG).1]; exact hd) _ (List.mem_singleton.2 rfl)
  have hi : ops[pre.length]? = some ⟨some d, .call ⟨.value (.func f), args, ats⟩, ty, ps, af, none⟩ := by
    rw [← Array.getElem?_toList, hp, List.getElem?_append_right (Nat.le_refl _), Nat.sub_self]; rfl
  rw [List.length_cons, List.range'_succ, wpOpsIn_cons]
  unfold Go.wpOpIn
  simp only [hi]
  rw [if_pos (by simp [Region.wanted]), ← (c.eq _ hG).2]
  refine op_in hok.2 ?_
  unfold Oper.wp
  rw [run_callFn he.eq]
  haveI : GlobI w := ⟨hR.below.glob⟩
  show Calls P f (args.map a.eval) w _
  have hargs : args.map a.eval = (args.toList.map a.eval).toArray := by rw [← Array.toList_map, Array.toArray_toList]
  rw [hargs]
  refine (hA (fun b => okOf c' φ s b ∧ b < w.heap.size) w _ (viewL_rep hR args.toList dvs [] (fun _ _ => ge_refl _) hv (fun _ _ => rfl) (fun b h1 h2 => ⟨h1, h2⟩) (fun h => absurd rfl h))).mono ?_
  rintro _ w' ⟨x, v, rfl, hr, hb⟩
  have hR' := hR.below' hb
  have hR2 := hR'.put (dst := some d) hok.1 (r := .d (r x)) (v := v) (DV.rep_keeps (Keeps.wide fun b hb1 _ => by
    rcases hb1 with hb1 | hb1
    · exact hb1.1
    · refine .inr ⟨.inl (Nat.le_trans hR.below.size hb1), fun nm hnm => ?_⟩
      have := hR.lt hnm
      omega) (r x) v hr)
  have := (h x).run (pre ++ [⟨some d, .call ⟨.value (.func f), args, ats⟩, ty, ps, af, none⟩]) (by rw [hp]; simp) _ _ _ ⟨c', hG, hR2⟩
  rw [← (c.eq _ hG).2] at this
  simpa using this⟩
section
variable {P : Program} {s : AS} {dst : Option Tmp} {ty : TypeId} {ps : String} {af : Array Edge} {t t' : TypeId} {x y : Operand}
/-- An error against nil. -/
theorem run_eqE {ms : Array (String × TypeId)} (ht : P.underlying t = some (.interface ms)) (w : World) (e : TypeId) (v : Value) : (Op.equal t (.iface e v) .nilIface).run P w = .ok false w := by
  have h : ∀ d : Nat, (Op.equalIn (d + 1) t (.iface e v) .nilIface).run P w = .ok false w := fun d => by simp [Op.equalIn, run_underlying ht]
  simp only [Op.equal, Op.maxDepth]
  exact h 9999
theorem run_eqE0 {ms : Array (String × TypeId)} (ht : P.underlying t = some (.interface ms)) (w : World) : (Op.equal t .nilIface .nilIface).run P w = .ok true w := by
  have h : ∀ d : Nat, (Op.equalIn (d + 1) t .nilIface .nilIface).run P w = .ok true w := fun d => by simp [Op.equalIn, run_underlying ht]
  simp only [Op.equal, Op.maxDepth]
  exact h 9999
theorem o_neqE {ms : Array (String × TypeId)} {e : TypeId} {v : Value} (ht : P.underlying t = some (.interface ms)) (hx : s.ev x = .d (.val (.iface e v))) (gd : Option (Nat × Bool)) : Does P ⟨dst, .binOp .neq t x (.const .nilIface) t', ty, ps, af, gd⟩ s [] (.put (.d (B true))) :=
  does_bin hx rfl fun w => by
    rw [Sem.run_bind, eqGuard_at_iface, Sem.run_pure, Result.andThen_ok]
    show (do pure (Value.bool (!(← Op.equal t (.iface e v) .nilIface)))).run P w = _
    rw [Sem.run_bind, run_eqE ht, Result.andThen_ok]; rfl
theorem o_neqE0 {ms : Array (String × TypeId)} (ht : P.underlying t = some (.interface ms)) (hx : s.ev x = .d (.val .nilIface)) (gd : Option (Nat × Bool)) : Does P ⟨dst, .binOp .neq t x (.const .nilIface) t', ty, ps, af, gd⟩ s [] (.put (.d (B false))) :=
  does_bin hx rfl fun w => by
    rw [Sem.run_bind, eqGuard_nil_constR, Sem.run_pure, Result.andThen_ok]
    show (do pure (Value.bool (!(← Op.equal t .nilIface .nilIface)))).run P w = _
    rw [Sem.run_bind, run_eqE0 ht, Result.andThen_ok]; rfl
theorem o_eqlE {ms : Array (String × TypeId)} {e : TypeId} {v : Value} (ht : P.underlying t = some (.interface ms)) (hx : s.ev x = .d (.val (.iface e v))) (gd : Option (Nat × Bool)) : Does P ⟨dst, .binOp .eql t x (.const .nilIface) t', ty, ps, af, gd⟩ s [] (.put (.d (B false))) :=
  does_bin hx rfl fun w => by
    rw [Sem.run_bind, eqGuard_at_iface, Sem.run_pure, Result.andThen_ok]
    show (do pure (Value.bool (← Op.equal t (.iface e v) .nilIface))).run P w = _
    rw [Sem.run_bind, run_eqE ht, Result.andThen_ok]; rfl
theorem o_eqlE0 {ms : Array (String × TypeId)} (ht : P.underlying t = some (.interface ms)) (hx : s.ev x = .d (.val .nilIface)) (gd : Option (Nat × Bool)) : Does P ⟨dst, .binOp .eql t x (.const .nilIface) t', ty, ps, af, gd⟩ s [] (.put (.d (B true))) :=
  does_bin hx rfl fun w => by
    rw [Sem.run_bind, eqGuard_nil_constR, Sem.run_pure, Result.andThen_ok]
    show (do pure (Value.bool (← Op.equal t .nilIface .nilIface))).run P w = _
    rw [Sem.run_bind, run_eqE0 ht, Result.andThen_ok]; rfl
end

end Go.Proofs.YtfcfmpdpjmbcnaaGreatDoor
