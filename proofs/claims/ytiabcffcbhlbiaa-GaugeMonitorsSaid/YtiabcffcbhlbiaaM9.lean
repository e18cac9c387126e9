/- Functions that are handed a yield: contracts and rules. Nothing of the program. -/
import Derived.Test.YtiabcffcbhlbiaaM8
set_option linter.unusedVariables false
set_option linter.unusedSimpArgs false
namespace Go.Proofs.Ytiabcffcbhlbiaa
open Go.RowKit

/-- A region in any order, whose last operation comes last. -/
theorem awp_region_anyL {P : Program} {c : Fam} {Q : Exit → AS → Prop} {s : AS} (hm : P.follows .mixedOrders = true) {id : Nat} {l l1 : List Oper} {o : Oper} (hl : l = l1 ++ [o]) (hd : dstsB c.nt l = true) (h : RunT P l.toArray l1 s fun rs t => regOkL l.toArray l1 rs = true ∧ WpL P l.toArray c [o] Q t) : AWp P c (.region id l.toArray true) Q s := ⟨fun φ a w hR => by
  obtain ⟨c', hG, hR⟩ := hR
  rw [← (c.eq _ hG).2]
  refine region_anyL hm (l := l1) (o := o) (by simpa using hl) (K := fun rs t => regOkL l.toArray l1 rs = true ∧ WpL P l.toArray c [o] Q t) (dstsB_spec l.toArray.toList (by rw [(c.eq _ hG).1]; simpa using hd)) h hR (fun _ _ h => h.1) fun _ t φ' a' w' h1 h2 => ?_
  have := h1.2.run l1 (by simpa using hl) φ' a' w' ⟨c', hG, h2⟩
  rw [show List.range' l1.length [o].length = [l1.length] from rfl, wpOpsIn_cons, ← (c.eq _ hG).2] at this
  exact this⟩
section
variable {P : Program} {s : AS} {dst : Option Tmp} {ty : TypeId} {ps : String} {af : Array Edge} {t : TypeId} {x y : Operand}
/-- A slice of the call's own is loaded from the cell in which it lies. -/
theorem o_loadLk {nm off L b cap n sz k : Nat} {blk : Blk} [h : TyI P t false k] (hx : s.ev x = .ptr nm off) (hm : s.mem nm = some blk) (hc : (blk.cells.drop off)[0]? = some (linkC b cap n)) (hL : s.fr L = linkP b cap sz) (hPN : Nat.ble PN L = true) (hn : n ≤ cap) (hcap : cap ≤ maxLen) (gd : Option (Nat × Bool)) :
    Does P ⟨dst, .load t x, ty, ps, af, gd⟩ s [nm] (.put (.lsl L 0 n sz)) :=
  ⟨fun c s' φ a w K Q hR hop hrd hd hlk hK => by
    have hPN : PN ≤ L := Nat.le_of_ble_eq_true hPN
    have h1 := ge_ptr hR (hop x (by simp [Op.operands])) hx
    obtain ⟨v, hv, hr⟩ := hR.load (P := P) ((hrd nm (by simp)).trans hm) (.one h.eq hc)
    have hr := (rep_val (ok := okOf c φ s') (w := w)).1 hr
    unfold Oper.wp
    have : (execOp a.eval ⟨dst, .load t x, ty, ps, af, gd⟩).run P w = .ok (.value v) w := by
      simp only [execOp, h1, Sem.run_bind, Instr.loadAt, Instr.sureAddr, Sem.run_pure, Result.andThen_ok, hv]
    rw [this]
    have h2 := hR.fr L (fun e => by have h3 : 3000000 ≤ L := hPN; have h4 : L = 999999 := e; omega)
    rw [hlk L _ hPN hL, slotAt_pn hPN] at h2
    have h2 : encP (φ L) = encP (b, cap * sz) := (rep_val (ok := okOf c φ s') (w := w)).1 h2
    unfold encP at h2
    injection h2 with e1 _ e2
    injection e1 with e1
    injection e1 with e1
    exact hK _ _ _ (hR.put hd ⟨cap, by rw [hr, e1], hn, hcap, by rw [e2]; simp⟩)⟩
end

end Go.Proofs.Ytiabcffcbhlbiaa
