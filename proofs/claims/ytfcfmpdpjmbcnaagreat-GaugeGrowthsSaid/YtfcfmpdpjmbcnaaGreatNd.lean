/- Calls whose result holds a slice of its own beside other slices. Nothing of the program. -/
import Derived.Test.YtfcfmpdpjmbcnaaGreatNx
set_option linter.unusedVariables false
set_option linter.unusedSimpArgs false
namespace Go.Proofs.YtfcfmpdpjmbcnaaGreat
open Go.RowKit

/-- The results, none of which is a slice of the call's own. -/
def ResD (P : Program) (s : AS) : List ResultVar → List DV → Prop
  | [], ds => ds = []
  | .tmp t :: l, ds => ∃ d ds', ds = d :: ds' ∧ s.ev (.tmp t) = .d d ∧ ResD P s l ds'
  | .cell t ty :: l, ds => ∃ d ds', ds = d :: ds' ∧ (∃ nm off blk, s.ev (.tmp t) = .ptr nm off ∧ s.mem nm = some blk ∧ LoadOf P ty (blk.cells.drop off) d) ∧ ResD P s l ds'
theorem resD_run {P : Program} {c : Ctx} {s : AS} {φ : Nat → Nat × Nat} {a : Act} {w : World} (h : R c s φ a w) : ∀ (rs : List ResultVar) (ds : List DV), ResD P s rs ds →
    ∃ vs, ((rs.mapM (m := Sem) fun | .tmp t => pure (a.tmps.getD t undef) | .cell x t => do loadVar t (← asAddr (a.tmps.getD x undef)))).run P w = .ok vs w ∧ DV.repL (okOf c φ s) w ds vs := by
  intro rs
  induction rs with
  | nil => intro ds hd; simp only [ResD] at hd; subst hd; exact ⟨[], by simp, repL_nil.2 rfl⟩
  | cons x l ih =>
    intro ds hd
    cases x with
    | tmp t =>
      obtain ⟨d, ds', rfl, hf, hl⟩ := hd
      obtain ⟨vs, hrun, hr⟩ := ih ds' hl
      have h1 := h.ev (.tmp t)
      rw [hf] at h1
      refine ⟨a.tmps.getD t undef :: vs, ?_, repL_cons'.2 ⟨h1, hr⟩⟩
      rw [List.mapM_cons]
      simp only [Sem.run_bind, Sem.run_pure, Result.andThen_ok, hrun]
    | cell t ty =>
      obtain ⟨d, ds', rfl, ⟨nm, off, blk, hf, hm, hlo⟩, hl⟩ := hd
      obtain ⟨vs, hrun, hr⟩ := ih ds' hl
      have h1 := h.ev (.tmp t)
      rw [hf] at h1
      obtain ⟨v, hv, hrv⟩ := h.load hm hlo
      refine ⟨v :: vs, ?_, repL_cons'.2 ⟨hrv, hr⟩⟩
      rw [List.mapM_cons]
      have h2 : a.tmps.getD t undef = .pointer (some ⟨(φ nm).1, off, none⟩) := h1
      have hA : (asAddr (.pointer (some ⟨(φ nm).1, off, none⟩))).run P w = .ok ⟨(φ nm).1, off, none⟩ w := rfl
      simp only [h2, Sem.run_bind, hA, Sem.run_pure, Result.andThen_ok, hrun, hv]
/-- A call returns r of a slice of n elements in a block g of its own; nothing else of r lies in g. -/
def ACw (P : Program) (f : FuncId) (args : List DV) (t : TypeId) (n sz : Nat) (cs : List DV) (r : DV → DV) : Prop :=
  ∀ (ok : Nat → Prop) (w : World) (vs : List Value), DV.repL ok w args vs → ∀ [GlobI w], Calls P f vs.toArray w fun e w' => ∃ g cap v, e = .returned v ∧ (r (linkC g cap n)).rep (fun b => ok b ∨ (w.heap.size ≤ b ∧ b ≠ g)) w' v ∧ w.heap.size ≤ g ∧ n ≤ cap ∧ cap ≤ maxLen ∧
    BlkAt (fun b => ok b ∨ (w.heap.size ≤ b ∧ b ≠ g)) w' (g, cap * sz) ⟨t, cs⟩ ∧ Below w.heap.size w w'
def ARetW (P : Program) (rs : List ResultVar) (t : TypeId) (n sz : Nat) (cs : List DV) (r : DV → DV) : Exit → AS → Prop
  | .normal, s | .ret, s => ∃ ds L b cap, ResD P s rs ds ∧ r (linkC b cap n) = resDV ds ∧ PN ≤ L ∧ s.fr L = linkP b cap sz ∧ s.mem L = some ⟨t, cs⟩ ∧ n ≤ cap ∧ cap ≤ maxLen
  | _, _ => False
theorem acw_body {P : Program} {f : FuncId} {fn : Func} {code : Code} {args : List DV} {rt : TypeId} {n sz : Nat} {cs : List DV} {r : DV → DV} (hf : P.funcs[f]? = some fn) (hb : fn.body = some code) (hn : (Nat.ble args.length fn.ntmps && Nat.ble fn.ntmps VG) = true)
    (h : ∀ w0 ok, AWp P (ctx0 w0 ok fn.ntmps) code (ARetW P fn.results.toList rt n sz cs r) (entry args)) : ACw P f args rt n sz cs r := by
  intro ok w vs hr hgl
  refine callsIn_wide.1 (callsIn_of_wp_marks (F := Fence.wide) (n := 0) hf hb trivial ?_)
  have hR : R (kx w ok fn.ntmps) (entry args) (fun _ => (0, 0)) { tmps := vs.toArray ++ Array.replicate (fn.ntmps - vs.toArray.size) undef, defers := [] } w := entry_R rfl hn (fun _ _ _ h => h) hr (fun _ => rfl) hgl.is (fun _ _ h => h)
  refine wpIn_mono ((h w ok).run _ _ _ (RF.one.2 hR)) fun e a w' ⟨t, φ, hq, hR'⟩ => ?_
  replace hR' := RF.one.1 hR'
  have fin : (∃ ds L b cap, ResD P t fn.results.toList ds ∧ r (linkC b cap n) = resDV ds ∧ PN ≤ L ∧ t.fr L = linkP b cap sz ∧ t.mem L = some ⟨rt, cs⟩ ∧ n ≤ cap ∧ cap ≤ maxLen) → LeavesInM Fence.wide 0 P fn a.tmps (fun e w' => ∃ g cap v, e = .returned v ∧ (r (linkC g cap n)).rep (fun b => ok b ∨ (w.heap.size ≤ b ∧ b ≠ g)) w' v ∧ w.heap.size ≤ g ∧ n ≤ cap ∧ cap ≤ maxLen ∧
      BlkAt (fun b => ok b ∨ (w.heap.size ≤ b ∧ b ≠ g)) w' (g, cap * sz) ⟨rt, cs⟩ ∧ Below w.heap.size w w') a.defers .returning w' := by
    rintro ⟨ds, L, b, cap, hres, hrr, hPN, hlk, hmem, hle, hcap⟩
    refine hR'.leaves fun w2 hR2 => ?_
    obtain ⟨us, hrun, hru⟩ := resD_run hR2 _ _ hres
    have h1 := hR2.fr L (fun e => by have h3 : 3000000 ≤ L := hPN; have h4 : L = 999999 := e; omega)
    rw [hlk, slotAt_pn hPN] at h1
    have h1 : encP (φ L) = encP (b, cap * sz) := (rep_val (ok := okOf (kx w ok fn.ntmps) φ t) (w := w2)).1 h1
    unfold encP at h1
    injection h1 with e1 _ e2
    injection e1 with e1
    injection e1 with e1
    have e3 : φ L = (b, cap * sz) := Prod.ext e1 e2
    have hwide : ∀ b', okOf (kx w ok fn.ntmps) φ t b' → ok b' ∨ (w.heap.size ≤ b' ∧ b' ≠ b) := fun b' hb => by
      rcases hb with hb | hb
      · exact .inl hb.2.1
      · exact .inr ⟨hb.1.resolve_right (fun h => h), fun e => hb.2 L (by rw [hmem]; simp) (by rw [e3]; exact e.symm)⟩
    have hru2 : DV.repL (fun b' => ok b' ∨ (w.heap.size ≤ b' ∧ b' ≠ b)) w2 ds us := DV.repL_keeps (Keeps.wide fun b' hb _ => hwide b' hb) _ _ hru
    have hl := repL_length hru
    refine ⟨if us.length = 1 then us[0]?.getD undef else .tuple us.toArray, ?_, b, cap, _, rfl, ?_, ?_, hle, hcap, ?_, hR2.below.all fun _ h => h⟩
    · have hmap : (fn.results.mapM (m := Sem) fun | .tmp t => pure (a.tmps.getD t undef) | .cell x t => do loadVar t (← asAddr (a.tmps.getD x undef))).run P w2 = .ok us.toArray w2 := by
        rw [← Array.toArray_toList (xs := fn.results), List.mapM_toArray, Sem.run_map]
        exact congrArg (fun r => Result.andThen r _) hrun
      unfold results
      rw [Sem.run_bind]
      refine (congrArg (fun r => Result.andThen r _) hmap).trans ?_
      simp only [Result.andThen_ok, Sem.run_pure]
      congr 1
      by_cases h1 : us.length = 1
      · simp [h1]
      · simp [h1]
    · rw [hrr]
      match ds, us, hl, hru2 with
      | [], us, hl, hru2 =>
        have : us = [] := List.eq_nil_of_length_eq_zero (by simpa using hl)
        subst this
        simp only [resDV, DV.rep]
        exact ⟨[], by simp, hru2⟩
      | [x], us, hl, hru2 =>
        obtain ⟨u, us', rfl, h1, h2⟩ := repL_cons.1 hru2
        rw [repL_nil] at h2; subst h2
        simpa [resDV] using h1
      | x :: y :: ds, us, hl, hru2 =>
        have : ¬ us.length = 1 := by simp at hl; omega
        rw [if_neg this]
        simp only [resDV, DV.rep]
        exact ⟨us, rfl, hru2⟩
    · have := (hR2.own L _ hmem).resolve_right (fun h => h)
      rwa [e3] at this
    · have hb := hR2.mem L _ hmem
      rw [e3] at hb
      obtain ⟨us2, ex, b1, b2, b3, b4⟩ := hb
      exact ⟨us2, ex, b1, b2, b3, DV.repL_keeps (Keeps.wide fun b' hb _ => hwide b' hb) _ _ b4⟩
  cases e with
  | normal => exact fin hq
  | ret => exact fin hq
  | exit id => exact hq.elim
  | goto l => exact hq.elim
  | panic ch => exact hq.elim
  | outgrown => exact hq.elim
theorem wpl_callW {P : Program} {ops : Array Oper} {c : Fam} {l : List Oper} {Q : Exit → AS → Prop} {s : AS} {d : Nat} {f : FuncId} {args : Array Operand} {ats : Array TypeId} {ty : TypeId} {ps : String} {af : Array Edge} {dvs : List DV} {e n sz : Nat} {cs : List DV} {r : DV → DV} (L : Nat) [he : EntI P f]
    (hv : viewL s args.toList = some (dvs, [])) (hA : ACw P f dvs e n sz cs r) (hL : s.mem L = none) (hdL : Nat.blt d PN = true) (hPN : Nat.ble PN L = true) (hd : dstsB c.nt [(⟨some d, .call ⟨.value (.func f), args, ats⟩, ty, ps, af, none⟩ : Oper)] = true)
    (h : ∀ x : LkOk n, WpL P ops c l Q (calledX s d L e cs n sz r x.1.1 x.1.2)) : WpL P ops c (⟨some d, .call ⟨.value (.func f), args, ats⟩, ty, ps, af, none⟩ :: l) Q s := ⟨fun pre hp φ a w ⟨c', hG, hR⟩ => by
  have hPN' : PN ≤ L := Nat.le_of_ble_eq_true hPN
  have hdL' : d < PN := Nat.le_of_ble_eq_true hdL
  have hdne : d ≠ L := fun e => by omega
  have hok := dstsB_spec (c := c') _ (by rw [(c.eq _ hG).1]; exact hd) _ (List.mem_singleton.2 rfl)
  have hi : ops[pre.length]? = some ⟨some d, .call ⟨.value (.func f), args, ats⟩, ty, ps, af, none⟩ := by
    rw [← Array.getElem?_toList, hp, List.getElem?_append_right (Nat.le_refl _), Nat.sub_self]; rfl
  rw [List.length_cons, List.range'_succ, wpOpsIn_cons]
  unfold Go.wpOpIn
  simp only [hi]
  rw [if_pos (by simp [Region.wanted]), ← (c.eq _ hG).2]
  refine op_in hok.2 ?_
  unfold Oper.wp
  rw [run_callFn he.eq]
  haveI : GlobI w := ⟨hR.below.glob⟩
  show Calls P f (args.map a.eval) w _
  have hargs : args.map a.eval = (args.toList.map a.eval).toArray := by rw [← Array.toList_map, Array.toArray_toList]
  rw [hargs]
  refine (hA (fun b => okOf c' φ s b ∧ b < w.heap.size) w _ (viewL_rep hR args.toList dvs [] (fun _ _ => ge_refl _) hv (fun _ _ => rfl) (fun b h1 h2 => ⟨h1, h2⟩) (fun h => absurd rfl h))).mono ?_
  rintro _ w' ⟨g, cap, v, rfl, hrep, hg, h1, h2, h3, hb⟩
  have hB := hR.below.size
  have hk : Keeps (fun b => (okOf c' φ s b ∧ b < w.heap.size) ∨ (w.heap.size ≤ b ∧ b ≠ g)) w' (okOf c' (upd φ d (g, cap * sz)) (s.newBlk d ⟨e, cs⟩ (.d (r (linkC g cap n))))) w' := Keeps.wide fun b hb _ => by
    have hin : ∀ nm, (s.newBlk d ⟨e, cs⟩ (.d (r (linkC g cap n)))).mem nm ≠ none → nm = d ∨ (nm ≠ d ∧ s.mem nm ≠ none) := fun nm hn => by
      by_cases e : nm = d
      · exact .inl e
      · exact .inr ⟨e, by simpa only [AS.newBlk, upd_ne _ _ e] using hn⟩
    rcases hb with ⟨⟨hb1, hb2, hb3⟩ | ⟨hb1, hb2⟩, hb4⟩ | ⟨hb1, hb2⟩
    · exact .inl ⟨hb1, hb2, hb3⟩
    · refine .inr ⟨hb1, fun nm hn => ?_⟩
      rcases hin nm hn with rfl | ⟨e, h5⟩
      · rw [upd_same]; intro e5; simp only at e5; omega
      · rw [upd_ne _ _ e]; exact hb2 nm h5
    · refine .inr ⟨.inl (by omega), fun nm hn => ?_⟩
      rcases hin nm hn with rfl | ⟨e, h5⟩
      · rw [upd_same]; exact fun e5 => hb2 e5.symm
      · rw [upd_ne _ _ e]; have := hR.lt h5; intro e5; omega
  have hR1 := hR.newBlk hb (hok.1 d rfl) hg (n := cap * sz) h3 (r := .d (r (linkC g cap n))) (v := v) (DV.rep_keeps hk _ _ hrep)
  have hR2 := hR1.rename (d := d) (L := L) (upd_same _ _ _) ((upd_ne _ _ (Ne.symm hdne)).trans hL) hPN'
  have hφ : upd φ d (g, cap * sz) d = (g, cap * sz) := upd_same _ _ _
  rw [hφ] at hR2
  have := (h ⟨(g, cap), h1, h2⟩).run (pre ++ [⟨some d, .call ⟨.value (.func f), args, ats⟩, ty, ps, af, none⟩]) (by rw [hp]; simp) _ _ _ ⟨c', hG, hR2⟩
  rw [← (c.eq _ hG).2] at this
  simpa using this⟩

end Go.Proofs.YtfcfmpdpjmbcnaaGreat
