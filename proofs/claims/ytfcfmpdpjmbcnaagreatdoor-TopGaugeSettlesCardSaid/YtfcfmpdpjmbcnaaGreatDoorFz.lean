/- Calls whose result holds a slice of its own. Nothing of the program. -/
import Derived.Test.YtfcfmpdpjmbcnaaGreatDoorM9
set_option linter.unusedVariables false
set_option linter.unusedSimpArgs false
namespace Go.Proofs.YtfcfmpdpjmbcnaaGreatDoor
open Go.RowKit

def ACx (P : Program) (f : FuncId) (args : List DV) (t : TypeId) (n sz : Nat) (cs : List DV) (r : DV → DV) : Prop :=
  ∀ (ok : Nat → Prop) (w : World) (vs : List Value), DV.repL ok w args vs → ∀ [GlobI w], Calls P f vs.toArray w fun e w' => ∃ g cap v, e = .returned v ∧ (r (linkC g cap n)).rep (fun _ => True) w' v ∧ w.heap.size ≤ g ∧ n ≤ cap ∧ cap ≤ maxLen ∧
    BlkAt (fun b => ok b ∨ (w.heap.size ≤ b ∧ b ≠ g)) w' (g, cap * sz) ⟨t, cs⟩ ∧ Below w.heap.size w w'
def ARetX (P : Program) (rs : List ResultVar) (t : TypeId) (n sz : Nat) (cs : List DV) (r : DV → DV) : Exit → AS → Prop
  | .normal, s | .ret, s => ∃ ds L b cap, ResL P s rs ds ∧ r (linkC b cap n) = resDV ds ∧ DV.flatL ds = true ∧ PN ≤ L ∧ s.fr L = linkP b cap sz ∧ s.mem L = some ⟨t, cs⟩ ∧ n ≤ cap ∧ cap ≤ maxLen
  | _, _ => False
theorem acx_body {P : Program} {f : FuncId} {fn : Func} {code : Code} {args : List DV} {rt : TypeId} {n sz : Nat} {cs : List DV} {r : DV → DV} (hf : P.funcs[f]? = some fn) (hb : fn.body = some code) (hn : (Nat.ble args.length fn.ntmps && Nat.ble fn.ntmps VG) = true)
    (h : ∀ w0 ok, AWp P (ctx0 w0 ok fn.ntmps) code (ARetX P fn.results.toList rt n sz cs r) (entry args)) : ACx P f args rt n sz cs r := by
  intro ok w vs hr hgl
  refine callsIn_wide.1 (callsIn_of_wp_marks (F := Fence.wide) (n := 0) hf hb trivial ?_)
  have hR : R (kx w ok fn.ntmps) (entry args) (fun _ => (0, 0)) { tmps := vs.toArray ++ Array.replicate (fn.ntmps - vs.toArray.size) undef, defers := [] } w := entry_R rfl hn (fun _ _ _ h => h) hr (fun _ => rfl) hgl.is (fun _ _ h => h)
  refine wpIn_mono ((h w ok).run _ _ _ (RF.one.2 hR)) fun e a w' ⟨t, φ, hq, hR'⟩ => ?_
  replace hR' := RF.one.1 hR'
  have fin : (∃ ds L b cap, ResL P t fn.results.toList ds ∧ r (linkC b cap n) = resDV ds ∧ DV.flatL ds = true ∧ PN ≤ L ∧ t.fr L = linkP b cap sz ∧ t.mem L = some ⟨rt, cs⟩ ∧ n ≤ cap ∧ cap ≤ maxLen) → LeavesInM Fence.wide 0 P fn a.tmps (fun e w' => ∃ g cap v, e = .returned v ∧ (r (linkC g cap n)).rep (fun _ => True) w' v ∧ w.heap.size ≤ g ∧ n ≤ cap ∧ cap ≤ maxLen ∧
      BlkAt (fun b => ok b ∨ (w.heap.size ≤ b ∧ b ≠ g)) w' (g, cap * sz) ⟨rt, cs⟩ ∧ Below w.heap.size w w') a.defers .returning w' := by
    rintro ⟨ds, L, b, cap, hres, hrr, hfl, hPN, hlk, hmem, hle, hcap⟩
    refine hR'.leaves fun w2 hR2 => ?_
    obtain ⟨us, hrun, hru⟩ := results_run hR2 (fun _ h => h) _ _ hres
    have hru2 : DV.repL (fun _ => True) w2 ds us := repL_flat _ _ hfl hru
    have hl := repL_length hru
    have h1 := hR2.fr L (fun e => by have h3 : 3000000 ≤ L := hPN; have h4 : L = 999999 := e; omega)
    rw [hlk, slotAt_pn hPN] at h1
    have h1 : encP (φ L) = encP (b, cap * sz) := (rep_val (ok := okOf (kx w ok fn.ntmps) φ t) (w := w2)).1 h1
    unfold encP at h1
    injection h1 with e1 _ e2
    injection e1 with e1
    injection e1 with e1
    have e3 : φ L = (b, cap * sz) := Prod.ext e1 e2
    refine ⟨if us.length = 1 then us[0]?.getD undef else .tuple us.toArray, ?_, b, cap, _, rfl, ?_, ?_, hle, hcap, ?_, hR2.below.all fun _ h => h⟩
    · have hmap : (fn.results.mapM (m := Sem) fun | .tmp t => pure (a.tmps.getD t undef) | .cell x t => do loadVar t (← asAddr (a.tmps.getD x undef))).run P w2 = .ok us.toArray w2 := by
        rw [← Array.toArray_toList (xs := fn.results), List.mapM_toArray, Sem.run_map]
        exact congrArg (fun r => Result.andThen r _) hrun
      unfold results
      rw [Sem.run_bind]
      refine (congrArg (fun r => Result.andThen r _) hmap).trans ?_
      simp only [Result.andThen_ok, Sem.run_pure]
      congr 1
      by_cases h1 : us.length = 1
      · simp [h1]
      · simp [h1]
    · rw [hrr]
      match ds, us, hl, hru2 with
      | [], us, hl, hru2 =>
        have : us = [] := List.eq_nil_of_length_eq_zero (by simpa using hl)
        subst this
        simp only [resDV, DV.rep]
        exact ⟨[], by simp, hru2⟩
      | [x], us, hl, hru2 =>
        obtain ⟨u, us', rfl, h1, h2⟩ := repL_cons.1 hru2
        rw [repL_nil] at h2; subst h2
        simpa [resDV] using h1
      | x :: y :: ds, us, hl, hru2 =>
        have : ¬ us.length = 1 := by simp at hl; omega
        rw [if_neg this]
        simp only [resDV, DV.rep]
        exact ⟨us, rfl, hru2⟩
    · have := (hR2.own L _ hmem).resolve_right (fun h => h)
      rwa [e3] at this
    · have hb := hR2.mem L _ hmem
      rw [e3] at hb
      obtain ⟨us2, ex, b1, b2, b3, b4⟩ := hb
      refine ⟨us2, ex, b1, b2, b3, DV.repL_keeps (Keeps.wide fun b' hb _ => ?_) _ _ b4⟩
      rcases hb with hb | hb
      · exact .inl hb.2.1
      · exact .inr ⟨hb.1.resolve_right (fun h => h), fun e => hb.2 L (by rw [hmem]; simp) (by rw [e3]; exact e.symm)⟩
  cases e with
  | normal => exact fin hq
  | ret => exact fin hq
  | exit id => exact hq.elim
  | goto l => exact hq.elim
  | panic ch => exact hq.elim
  | outgrown => exact hq.elim
abbrev calledX (s : AS) (d L : Nat) (e : TypeId) (cs : List DV) (n sz : Nat) (r : DV → DV) (b cap : Nat) : AS :=
  ⟨upd (fun i => (((s.newBlk d ⟨e, cs⟩ (.d (r (linkC b cap n)))).fr i).kill d).kill L) L (linkP b cap sz), upd (upd (s.newBlk d ⟨e, cs⟩ (.d (r (linkC b cap n)))).mem d none) L (some ⟨e, cs⟩)⟩
theorem wpl_callX {P : Program} {ops : Array Oper} {c : Fam} {l : List Oper} {Q : Exit → AS → Prop} {s : AS} {d : Nat} {f : FuncId} {args : Array Operand} {ats : Array TypeId} {ty : TypeId} {ps : String} {af : Array Edge} {dvs : List DV} {e n sz : Nat} {cs : List DV} {r : DV → DV} (L : Nat) [he : EntI P f]
    (hv : viewL s args.toList = some (dvs, [])) (hA : ACx P f dvs e n sz cs r) (hL : s.mem L = none) (hdL : Nat.blt d PN = true) (hPN : Nat.ble PN L = true) (hd : dstsB c.nt [(⟨some d, .call ⟨.value (.func f), args, ats⟩, ty, ps, af, none⟩ : Oper)] = true) (hfl : ∀ b cap, (r (linkC b cap n)).flat = true)
    (h : ∀ x : LkOk n, WpL P ops c l Q (calledX s d L e cs n sz r x.1.1 x.1.2)) : WpL P ops c (⟨some d, .call ⟨.value (.func f), args, ats⟩, ty, ps, af, none⟩ :: l) Q s := ⟨fun pre hp φ a w ⟨c', hG, hR⟩ => by
  have hPN' : PN ≤ L := Nat.le_of_ble_eq_true hPN
  have hdL' : d < PN := Nat.le_of_ble_eq_true hdL
  have hdne : d ≠ L := fun e => by omega
  have hok := dstsB_spec (c := c') _ (by rw [(c.eq _ hG).1]; exact hd) _ (List.mem_singleton.2 rfl)
  have hi : ops[pre.length]? = some ⟨some d, .call ⟨.value (.func f), args, ats⟩, ty, ps, af, none⟩ := by
    rw [← Array.getElem?_toList, hp, List.getElem?_append_right (Nat.le_refl _), Nat.sub_self]; rfl
  rw [List.length_cons, List.range'_succ, wpOpsIn_cons]
  unfold Go.wpOpIn
  simp only [hi]
  rw [if_pos (by simp [Region.wanted]), ← (c.eq _ hG).2]
  refine op_in hok.2 ?_
  unfold Oper.wp
  rw [run_callFn he.eq]
  haveI : GlobI w := ⟨hR.below.glob⟩
  show Calls P f (args.map a.eval) w _
  have hargs : args.map a.eval = (args.toList.map a.eval).toArray := by rw [← Array.toList_map, Array.toArray_toList]
  rw [hargs]
  refine (hA (fun b => okOf c' φ s b ∧ b < w.heap.size) w _ (viewL_rep hR args.toList dvs [] (fun _ _ => ge_refl _) hv (fun _ _ => rfl) (fun b h1 h2 => ⟨h1, h2⟩) (fun h => absurd rfl h))).mono ?_
  rintro _ w' ⟨g, cap, v, rfl, hrep, hg, h1, h2, h3, hb⟩
  have hR1 := hR.newBlk hb (hok.1 d rfl) hg (n := cap * sz) h3 (r := .d (r (linkC g cap n))) (v := v) (rep_flat _ _ (hfl g cap) hrep)
  have hR2 := hR1.rename (d := d) (L := L) (upd_same _ _ _) ((upd_ne _ _ (Ne.symm hdne)).trans hL) hPN'
  have hφ : upd φ d (g, cap * sz) d = (g, cap * sz) := upd_same _ _ _
  rw [hφ] at hR2
  have := (h ⟨(g, cap), h1, h2⟩).run (pre ++ [⟨some d, .call ⟨.value (.func f), args, ats⟩, ty, ps, af, none⟩]) (by rw [hp]; simp) _ _ _ ⟨c', hG, hR2⟩
  rw [← (c.eq _ hG).2] at this
  simpa using this⟩

end Go.Proofs.YtfcfmpdpjmbcnaaGreatDoor
/- Structs that hold one slice of the call's own, beside a value. Nothing of the program. -/
set_option linter.unusedVariables false
set_option linter.unusedSimpArgs false
namespace Go.Proofs.YtfcfmpdpjmbcnaaGreatDoor
open Go.RowKit

section
variable {P : Program} {s : AS} {dst : Option Tmp} {ty : TypeId} {ps : String} {af : Array Edge} {t : TypeId} {x y : Operand}
theorem o_buildDep1 {i j n l1 : Nat} {v : DV} {zs : List Value} {ls : List (Nat × Nat)} [hz : ZroI P t zs] [hs : StrI P t ls] (hx : s.ev x = .lsl n 0 l1 2) (hy : s.ev y = .d v) {g : Nat × Nat → List DV}
    (hr : ∀ p : Nat × Nat, afill (fun i => ls[i]?) (zs.map DV.val) [(i, linkC p.1 (p.2 / 2) l1), (j, v)] = some (g p)) (gd : Option (Nat × Bool)) : Does P ⟨dst, .build t #[(i, x), (j, y)], ty, ps, af, gd⟩ s [] (.put (.dep n n fun p _ => .agg (g p))) :=
  does_pure fun c s' φ a w hR hop => by
    obtain ⟨z, hzr, hzc, hzo⟩ := zroOf_run hz.eq w
    obtain ⟨cap, e1, a1, a2, a3⟩ := ge_lsl hR (hop x (by simp [Op.operands])) hx
    have e2 := ge_d hR (hop y (by simp [Op.operands])) hy
    have a4 : (φ n).2 / 2 = cap := by rw [← a3]; omega
    have h2 : DV.repL (okOf c φ s') w [linkC (φ n).1 ((φ n).2 / 2) l1, v] [a.eval x, a.eval y] := by
      rw [a4, e1]
      exact repL_cons'.2 ⟨val_rep _ _ _, repL_cons'.2 ⟨e2, repL_nil.2 rfl⟩⟩
    obtain ⟨us, h3, h4, h5⟩ := fill_sim (fun i => ls[i]?) [(i, linkC (φ n).1 ((φ n).2 / 2) l1), (j, v)] [(i, a.eval x), (j, a.eval y)] _ z.cells (g (φ n)) rfl h2 (by rw [hzc]; exact repL_vals zs) (by rw [hzc]; exact hzo) (hr _)
    refine ⟨.agg us, ?_, ?_⟩
    · have hs := hs.eq
      unfold strOf at hs
      cases hu : P.underlying t with
      | none => simp [hu] at hs
      | some d =>
        cases d <;> simp only [hu] at hs <;> try (cases hs; done)
        rename_i fs
        have hm := mapM_places (P := P) (w := w) fs.toList ls hs
        have hm2 : (fs.mapM (m := Sem) fun f => do pure (f.offset, ← sizeOf f.type)).run P w = .ok ls.toArray w := by
          rw [← Array.toArray_toList (xs := fs), List.mapM_toArray, Sem.run_map, hm]; rfl
        have hpl : (fun i : Nat => ls.toArray[i]?) = fun i : Nat => ls[i]? := by funext i; simp
        have hpa : ((#[(i, x), (j, y)] : Array (Nat × Operand)).map fun x => (x.1, a.eval x.2)).toList = [(i, a.eval x), (j, a.eval y)] := by simp
        simp only [execOp, Instr.build, Sem.run_bind, hzr, run_underlying hu w, Result.andThen_ok, hm2, hpl, hpa, h3, Sem.run_pure]
    · show DV.rep _ w _ _
      rw [DV.rep]
      exact ⟨us.toList, by simp, h4, h5⟩
end

theorem turns_dep1 {c : Fam} {s : AS} {k1 : Blk} (t t1 n L : Nat) {l1 : Nat} {f : Nat × Nat → Nat × Nat → DV} {r : Nat → Nat → DV} (ht : s.fr t = .dep n n f) (h1 : s.fr t1 = .lsl n 0 l1 2) (htV : (Nat.blt t VG && Nat.blt t1 VG && Nat.ble PN L) = true)
    (hm1 : s.mem n = some k1) (hL : s.mem L = none) (hf : ∀ b cap, f (b, cap * 2) (b, cap * 2) = r b cap) :
    TurnsE c s fun (x : LkOk l1) => ⟨upd (fun i => ((upd s.fr t (.d (r x.1.1 x.1.2)) i).kill n).kill L) L (linkP x.1.1 x.1.2 2), upd (upd s.mem n none) L (some k1)⟩ := fun φ a w ⟨c', hG, hR⟩ => by
  simp only [Bool.and_eq_true, Nat.ble_eq, Nat.blt_eq] at htV
  obtain ⟨⟨v0, v1⟩, p1⟩ := htV
  have ltV : ∀ {i : Nat}, i < VG → i ≠ VG := fun h => Nat.ne_of_lt h
  obtain ⟨cap, e1, a1, a2, a3⟩ : (AV.lsl n 0 l1 2).rep (okOf c' φ s) φ w _ := by have := hR.fr t1 (ltV v1); rwa [h1] at this
  have a4 : φ n = ((φ n).1, cap * 2) := Prod.ext rfl (by rw [← a3]; omega)
  have hR1 : R c' ⟨upd s.fr t (.d (f (φ n) (φ n))), s.mem⟩ φ a w := hR.slot v0 fun v hv => by rw [ht] at hv; exact hv
  have hR2 := hR1.rename (d := n) (L := L) hm1 hL p1
  refine ⟨⟨((φ n).1, cap), a1, a2⟩, upd φ L (φ n), c', hG, ?_⟩
  dsimp only [linkP]
  rw [← hf, ← a4]
  exact hR2

end Go.Proofs.YtfcfmpdpjmbcnaaGreatDoor
