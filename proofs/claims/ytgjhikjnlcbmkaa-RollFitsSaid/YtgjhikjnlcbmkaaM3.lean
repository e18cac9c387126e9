/- Merged: XAm XAn XAp XAo XAq XAr XAs XAt XCz. -/
import Derived.Test.YtgjhikjnlcbmkaaMl
import Derived.KernelRfl
import Derived.ProofKit
import Derived.Deep.Slices
import Derived.Carry
import Derived.OpenShut
import Derived.SizedLaws
import Derived.Test.YtgjhikjnlcbmkaaRows
set_option linter.unusedVariables false
set_option linter.unusedSimpArgs false
/- Slices that a loop has made, given up as values. Nothing of the program. -/
namespace Go.Proofs.Ytgjhikjnlcbmkaa
open Go.RowKit

abbrev nilV : DV := .val (.slice none 0 0)

theorem blk_one (t : TypeId) (f : Nat → Int) {v : Int} (h : v = f 0) : some (Blk.mk t [I v]) = some ⟨t, ivs (lst f 1)⟩ := by rw [h]; rfl

section
variable {P : Program} {c : Fam} {Q : Exit → AS → Prop} {s : AS}

theorem rep_nilS {ok : Nat → Prop} {w : World} {v : Value} (h : nilV.rep ok w v) : (DV.slice 0 []).rep ok w v := by
  rw [rep_val.1 h, DV.rep]
  exact ⟨none, 0, rfl, Nat.le_refl _, Nat.zero_le _, fun h => absurd rfl h⟩
theorem R.nilS {c : Ctx} {φ : Nat → Nat × Nat} {a : Act} {w : World} (h : R c s φ a w) {i : Nat} (hi : s.fr i = .d nilV) : R c ⟨upd s.fr i (.d (.slice 0 [])), s.mem⟩ φ a w :=
  ⟨h.below, h.defers, h.size, h.ntv, fun j hj => by
    show AV.rep _ φ w (upd s.fr i (.d (.slice 0 [])) j) _
    by_cases e : j = i
    · subst e
      rw [upd_same]
      have := h.fr j hj
      rw [hi] at this
      exact rep_nilS this
    · rw [upd_ne _ _ e]; exact h.fr j hj, h.own, h.mem, h.inj, fun k hk => h.gh k (by
      have hk : upd s.fr i (.d (.slice 0 [])) VG = .d (.val (.int .i64 k)) := hk
      by_cases e : VG = i
      · rw [e, upd_same] at hk; cases hk
      · rwa [upd_ne _ _ e] at hk)⟩
theorem awp_nil {code : Code} (i : Nat) (hi : s.fr i = .d nilV) (h : AWp P c code Q ⟨upd s.fr i (.d (.slice 0 [])), s.mem⟩) : AWp P c code Q s :=
  ⟨fun φ a w ⟨c', hG, hR⟩ => h.run φ a w ⟨c', hG, hR.nilS hi⟩⟩
theorem kill_le (s : AS) (nm : Nat) : s.le ⟨fun j => (s.fr j).kill nm, upd s.mem nm none⟩ := by
  constructor
  · intro j
    show (s.fr j).kill nm = _ ∨ (s.fr j).kill nm = _
    cases s.fr j with
    | d x => exact .inr rfl
    | ptr n off => cases h : n == nm <;> simp [AV.kill, h]
    | lsl n off len sz => cases h : n == nm <;> simp [AV.kill, h]
    | dep a b f => cases h : (a == nm || b == nm) <;> simp only [AV.kill, h, cond_true, cond_false] <;> simp
  · intro n blk h
    show s.mem n = _
    have h : upd s.mem nm none n = some blk := h
    by_cases e : n = nm
    · subst e; rw [upd_same] at h; cases h
    · rwa [upd_ne _ _ e] at h
theorem awp_own {code : Code} (i nm : Nat) {n : Nat} {t : TypeId} (f : Nat → Int) (hi : s.fr i = ownS nm n) (hm : ∀ k, n = k + 1 → s.mem nm = some ⟨t, ivs (lst f n)⟩)
    (h : AWp P c code Q ⟨upd (fun j => (s.fr j).kill nm) i (.d (isl (lst f n))), upd s.mem nm none⟩) : AWp P c code Q s := by
  cases n with
  | zero =>
    refine awp_weaken (kill_le s nm) ?_
    refine awp_nil i ?_ h
    show (s.fr i).kill nm = _
    rw [hi]; rfl
  | succ k =>
    have hm := hm k rfl
    refine awp_freeze nm hm (awp_weaken (s' := ⟨upd (fun j => (s.fr j).kill nm) i (.d (isl (lst f (k + 1)))), upd s.mem nm none⟩) ⟨fun j => ?_, fun n blk hb => hb⟩ h)
    show upd (fun j => (s.fr j).kill nm) i (.d (isl (lst f (k + 1)))) j = .d .any ∨ upd (fun j => (s.fr j).kill nm) i (.d (isl (lst f (k + 1)))) j = (s.fr j).frz nm (ivs (lst f (k + 1)))
    by_cases e : j = i
    · subst e
      refine .inr ?_
      rw [upd_same, hi]
      show _ = AV.frz nm (ivs (lst f (k + 1))) (.lsl nm 0 (k + 1) 1)
      simp only [AV.frz, BEq.rfl, cond_true]
      rw [sl_whole]
    · rw [upd_ne _ _ e]
      cases s.fr j with
      | d x => exact .inr rfl
      | ptr n off => cases h : n == nm <;> simp [AV.kill, AV.frz, h]
      | lsl n off len sz => cases h : n == nm <;> simp [AV.kill, AV.frz, h]
      | dep a b f => cases h : (a == nm || b == nm) <;> simp only [AV.kill, AV.frz, h, cond_true, cond_false] <;> simp
end

end Go.Proofs.Ytgjhikjnlcbmkaa

/- Appending nothing; functions that return a slice of their own; more comparisons with nil. Nothing of the program. -/
namespace Go.Proofs.Ytgjhikjnlcbmkaa
open Go.RowKit

section
variable {P : Program} {s : AS} {ty : TypeId} {ps : String} {af : Array Edge} {dst : Option Tmp} {gd : Option (Nat × Bool)} {t t' : TypeId} {x y : Operand}

theorem run_app0 {e : TypeId} {i : TypeInfo} {tys : Array TypeId} (hu : P.underlying t = some (.slice e)) (hi : P.info? e = some i) (A : Option Addr) (n cap : Nat) (hn : n ≤ cap) (B : Option Addr) (c2 : Nat) (w : World) :
    (Builtin.append_ #[t, t] ty #[.slice A n cap, .slice B 0 c2]).run P w = .ok (.slice A n cap) w := by
  cases A <;> cases B <;> simp [Builtin.append_, Sem.run_bind, run_underlying hu w, sizeOf, typeInfo, hi, Builtin.lenOf, Builtin.firstCells, hn, storeCells, loadCells, loadCellsFrom]

theorem does_app0 {e nm n sz sz' bytes : Nat} {zs : List Value} {cs : List DV} (ht : sliOf P t = some (e, sz', bytes, zs)) (hx : s.ev x = .lsl nm 0 n sz) (hy : s.ev y = .d (.slice 0 cs)) : Does P ⟨dst, .call ⟨.builtin .append, #[x, y], #[t, t]⟩, ty, ps, af, gd⟩ s [] (.put (.lsl nm 0 n sz)) :=
  does_pure fun c s' φ a w hR hop => by
    obtain ⟨i, z, hu, hi, _⟩ := sliOf_parts ht
    have h0 := ge_lsl hR (hop x (by simp [Op.operands, Call.operands])) hx
    obtain ⟨cap, e1, h1, h2, h3⟩ := h0
    have e2 := ge_d hR (hop y (by simp [Op.operands, Call.operands])) hy
    rw [DV.rep] at e2
    obtain ⟨B, c2, e2, _⟩ := e2
    refine ⟨.slice (some ⟨(φ nm).1, 0, none⟩) n cap, ?_, cap, rfl, h1, h2, h3⟩
    have hrun := run_app0 (ty := ty) (tys := #[]) hu hi (some ⟨(φ nm).1, 0, none⟩) n cap h1 B c2 w
    simp only [execOp, resolve, invoke, builtin, Sem.run_bind, Sem.run_pure, Result.andThen_ok, List.map_toArray, List.map_cons, List.map_nil, e1, e2, hrun]
theorem o_app0 {e nm n sz sz' bytes : Nat} {zs : List Value} {cs : List DV} [ht : SliI P t e sz' bytes zs] (hx : s.ev x = .lsl nm 0 n sz) (hy : s.ev y = .d (.slice 0 cs)) (gd : Option (Nat × Bool)) : Does P ⟨dst, .call ⟨.builtin .append, #[x, y], #[t, t]⟩, ty, ps, af, gd⟩ s [] (.put (.lsl nm 0 n sz)) := does_app0 ht.eq hx hy
theorem o_appN0 {e sz' bytes : Nat} {zs : List Value} {cs : List DV} [ht : SliI P t e sz' bytes zs] (hx : s.ev x = .d nilV) (hy : s.ev y = .d (.slice 0 cs)) (gd : Option (Nat × Bool)) : Does P ⟨dst, .call ⟨.builtin .append, #[x, y], #[t, t]⟩, ty, ps, af, gd⟩ s [] (.put (.d nilV)) :=
  does_pure fun c s' φ a w hR hop => by
    obtain ⟨i, z, hu, hi, _⟩ := sliOf_parts ht.eq
    have e1 := ge_val hR (hop x (by simp [Op.operands, Call.operands])) hx
    have e2 := ge_d hR (hop y (by simp [Op.operands, Call.operands])) hy
    rw [DV.rep] at e2
    obtain ⟨B, c2, e2, _⟩ := e2
    refine ⟨.slice none 0 0, ?_, (rep_val (ok := okOf c φ s') (w := w)).2 rfl⟩
    have hrun := run_app0 (ty := ty) (tys := #[]) hu hi none 0 0 (Nat.le_refl _) B c2 w
    simp only [execOp, resolve, invoke, builtin, Sem.run_bind, Sem.run_pure, Result.andThen_ok, List.map_toArray, List.map_cons, List.map_nil, e1, e2, hrun]
theorem o_nilD {e : TypeId} {n : Nat} {cs : List DV} [ht : UndI P t (.slice e)] (hx : s.ev x = .d (.slice n cs)) (hne : cs ≠ []) (hy : s.ev y = .d nilV) (gd : Option (Nat × Bool)) : Does P ⟨dst, .binOp .eql t x y t', ty, ps, af, gd⟩ s [] (.put (.d (.val (.bool false)))) :=
  does_pure fun c s' φ a w hR hop => by
    have h1 := ge_d hR (hop x (by simp [Op.operands])) hx
    have h2 := ge_val hR (hop y (by simp [Op.operands])) hy
    rw [DV.rep] at h1
    obtain ⟨A, cap, h1, _, _, h3⟩ := h1
    obtain ⟨b, o, vs, rfl, _⟩ := h3 hne
    refine ⟨.bool false, ?_, (rep_val (ok := okOf c φ s') (w := w)).2 rfl⟩
    have e1 : (eqGuard .eql t x y (.slice (some ⟨b, o, none⟩) n cap) (.slice none 0 0)).run P w = .ok () w := by unfold eqGuard; rfl
    have e2 : (binOp .eql t (.slice (some ⟨b, o, none⟩) n cap) (.slice none 0 0)).run P w = .ok (.bool false) w := by simp [binOp, run_equal_slice_nil w t e _ n cap ht.eq]
    simp only [execOp, h1, h2, Sem.run_bind, e1, e2, Sem.run_pure, Result.andThen_ok]
end

def ARetO (rs : List ResultVar) (t : TypeId) (n sz : Nat) (cs : List DV) : Exit → AS → Prop
  | .normal, s | .ret, s => ∃ i nm, rs = [.tmp i] ∧ s.ev (.tmp i) = .lsl nm 0 n sz ∧ s.mem nm = some ⟨t, cs⟩
  | _, _ => False
theorem q_retO {rs : List ResultVar} {t : TypeId} {n sz : Nat} {cs : List DV} {s : AS} {i nm : Nat} (h : rs = [.tmp i]) (h1 : s.ev (.tmp i) = .lsl nm 0 n sz) (h2 : s.mem nm = some ⟨t, cs⟩) : ARetO rs t n sz cs .ret s := ⟨i, nm, h, h1, h2⟩
theorem q_retON {rs : List ResultVar} {t : TypeId} {n sz : Nat} {cs : List DV} {s : AS} {i nm : Nat} (h : rs = [.tmp i]) (h1 : s.ev (.tmp i) = .lsl nm 0 n sz) (h2 : s.mem nm = some ⟨t, cs⟩) : ARetO rs t n sz cs .normal s := ⟨i, nm, h, h1, h2⟩

theorem aco_body {P : Program} {f : FuncId} {fn : Func} {code : Code} {args : List DV} {rt : TypeId} {n sz : Nat} {cs : List DV} (hf : P.funcs[f]? = some fn) (hb : fn.body = some code) (hn : (Nat.ble args.length fn.ntmps && Nat.ble fn.ntmps VG) = true) (h : ∀ w0 ok, AWp P (ctx0 w0 ok fn.ntmps) code (ARetO fn.results.toList rt n sz cs) (entry args)) : ACo P f args rt n sz cs := by
  intro ok w vs hr hgl
  refine callsIn_wide.1 (callsIn_of_wp_marks (F := Fence.wide) (n := 0) hf hb trivial ?_)
  have hR : R (kx w ok fn.ntmps) (entry args) (fun _ => (0, 0)) { tmps := vs.toArray ++ Array.replicate (fn.ntmps - vs.toArray.size) undef, defers := [] } w := entry_R rfl hn (fun _ _ _ h => h) hr (fun _ => rfl) hgl.is (fun _ _ h => h)
  refine wpIn_mono ((h w ok).run _ _ _ (RF.one.2 hR)) fun e a w' ⟨t, φ, hq, hR'⟩ => ?_
  replace hR' := RF.one.1 hR'
  have fin : (∃ i nm, fn.results.toList = [.tmp i] ∧ t.ev (.tmp i) = .lsl nm 0 n sz ∧ t.mem nm = some ⟨rt, cs⟩) → LeavesInM Fence.wide 0 P fn a.tmps (fun e w' => ∃ g cap, e = .returned (.slice (some ⟨g, 0, none⟩) n cap) ∧ w.heap.size ≤ g ∧ n ≤ cap ∧ cap ≤ maxLen ∧
      BlkAt (fun b => ok b ∨ (w.heap.size ≤ b ∧ b ≠ g)) w' (g, cap * sz) ⟨rt, cs⟩ ∧ Below w.heap.size w w') a.defers .returning w' := by
    rintro ⟨i, nm, hres, hfr, hmem⟩
    refine hR'.leaves fun w2 hR2 => ?_
    have h1 := hR2.ev (.tmp i)
    rw [hfr] at h1
    obtain ⟨cap, h1, h2, h3, h4⟩ := h1
    have h1 : a.tmps.getD i undef = .slice (some ⟨(φ nm).1, 0, none⟩) n cap := h1
    refine ⟨_, ?_, (φ nm).1, cap, rfl, (hR2.own nm _ hmem).resolve_right (fun h => h), h2, h3, ?_, hR2.below.all fun _ h => h⟩
    · have hra : fn.results = #[.tmp i] := by rw [← Array.toArray_toList (xs := fn.results), hres]
      have hm1 : ((#[ResultVar.tmp i] : Array ResultVar).mapM (m := Sem) fun | .tmp t => pure (a.tmps.getD t undef) | .cell x t => do loadVar t (← asAddr (a.tmps.getD x undef))).run P w2 = .ok #[a.tmps.getD i undef] w2 := by
        rw [List.mapM_toArray, Sem.run_map]
        simp
      unfold results
      rw [hra, Sem.run_bind]
      refine (congrArg (fun r => Result.andThen r _) hm1).trans ?_
      simp [h1]
    · have hb := hR2.mem nm _ hmem
      rw [show ((φ nm).1, cap * sz) = φ nm by rw [show cap * sz = (φ nm).2 by omega]]
      obtain ⟨us, ex, b1, b2, b3, b4⟩ := hb
      refine ⟨us, ex, b1, b2, b3, DV.repL_keeps (Keeps.wide fun b hb _ => ?_) _ _ b4⟩
      rcases hb with hb | hb
      · exact .inl hb.2.1
      · exact .inr ⟨hb.1.resolve_right (fun h => h), fun e => hb.2 nm (by rw [hmem]; simp) e.symm⟩
  cases e with
  | normal => exact fin hq
  | ret => exact fin hq
  | exit id => exact hq.elim
  | goto l => exact hq.elim
  | panic ch => exact hq.elim
  | outgrown => exact hq.elim

end Go.Proofs.Ytgjhikjnlcbmkaa

/- Slices that a loop makes, by their lists; function values with captures. Nothing of the program. -/
namespace Go.Proofs.Ytgjhikjnlcbmkaa
open Go.RowKit

def ownL (nm : Nat) : List Int → AV
  | [] => .d nilV
  | x :: l => .lsl nm 0 (x :: l).length 1
def ownLM (nm : Nat) (t : TypeId) : List Int → List (Nat × Blk)
  | [] => []
  | x :: l => [(nm, ⟨t, ivs (x :: l)⟩)]
theorem ownL_snoc (nm : Nat) (x : Int) (l : List Int) (v : Int) : AV.lsl nm 0 ((x :: l).length + 1) 1 = ownL nm (x :: (l ++ [v])) := by simp [ownL]
theorem blkL_snoc (t : TypeId) (x : Int) (l : List Int) (v : Int) : some (Blk.mk t (ivs (x :: l) ++ [I v])) = some ⟨t, ivs (x :: (l ++ [v]))⟩ := by simp [ivs]
theorem ivs_len2 (l : List Int) : (ivs l).length = l.length := by simp [ivs]

section
variable {P : Program} {c : Fam} {Q : Exit → AS → Prop} {s : AS}
theorem awp_ownL {code : Code} (i nm : Nat) {t : TypeId} (l : List Int) (hi : s.fr i = ownL nm l) (hm : ∀ x k, l = x :: k → s.mem nm = some ⟨t, ivs l⟩)
    (h : AWp P c code Q ⟨upd (fun j => (s.fr j).kill nm) i (.d (isl l)), upd s.mem nm none⟩) : AWp P c code Q s := by
  cases l with
  | nil =>
    refine awp_weaken (kill_le s nm) ?_
    refine awp_nil i ?_ h
    show (s.fr i).kill nm = _
    rw [hi]; rfl
  | cons x k =>
    have hm := hm x k rfl
    refine awp_freeze nm hm (awp_weaken (s' := ⟨upd (fun j => (s.fr j).kill nm) i (.d (isl (x :: k))), upd s.mem nm none⟩) ⟨fun j => ?_, fun n blk hb => hb⟩ h)
    show upd (fun j => (s.fr j).kill nm) i (.d (isl (x :: k))) j = .d .any ∨ upd (fun j => (s.fr j).kill nm) i (.d (isl (x :: k))) j = (s.fr j).frz nm (ivs (x :: k))
    by_cases e : j = i
    · subst e
      refine .inr ?_
      rw [upd_same, hi]
      show _ = AV.frz nm (ivs (x :: k)) (.lsl nm 0 (x :: k).length 1)
      simp only [AV.frz, BEq.rfl, cond_true]
      rw [List.drop_zero, Nat.mul_one, List.take_of_length_le (Nat.le_of_eq (ivs_len2 _))]
    · rw [upd_ne _ _ e]
      cases s.fr j with
      | d x => exact .inr rfl
      | ptr n off => cases h : n == nm <;> simp [AV.kill, AV.frz, h]
      | lsl n off len sz => cases h : n == nm <;> simp [AV.kill, AV.frz, h]
      | dep a b f => cases h : (a == nm || b == nm) <;> simp only [AV.kill, AV.frz, h, cond_true, cond_false] <;> simp
end

end Go.Proofs.Ytgjhikjnlcbmkaa

/- The tables of rules, as default arguments: each rule of a table is tried in turn. Nothing of the program. -/
namespace Go.Proofs.Ytgjhikjnlcbmkaa
open Go.RowKit

section
variable {P : Program} {s : AS} {op : Op} {ty : TypeId} {ps : String} {af : Array Edge} {dst : Option Tmp} {rd : List Nat}
theorem tt {q : Bool} (h : q = true := by (first | assumption | exact decide_eq_true (by first | assumption | omega) | exact not_t (by first | assumption | exact decide_eq_false (by first | assumption | omega)) | exact rfl)) : q = true := h
theorem ff {q : Bool} (h : q = false := by (first | assumption | exact decide_eq_false (by first | assumption | omega) | exact not_f (by first | assumption | exact decide_eq_true (by first | assumption | omega)) | exact rfl)) : q = false := h
theorem tf {q b : Bool} (h : q = b := by first | exact tt | exact ff) : q = b := h
theorem kr {a b : Bool} (h : a = b := by kernel_rfl) : a = b := h
theorem dp {r : AV} (h : ∀ gd, Does P ⟨dst, op, ty, ps, af, gd⟩ s rd (.put r) := by
    first
    | exact o_move (r := .d (.val _)) rfl
    | exact o_assign (r := .d (.val _)) rfl
    | exact o_move (r := .d _) rfl
    | exact o_assign (r := .d _) rfl
    | exact o_move (r := .ptr _ _) rfl
    | exact o_assign (r := .ptr _ _) rfl
    | exact o_move (r := .lsl _ _ _ _) rfl
    | exact o_assign (r := .lsl _ _ _ _) rfl
    | exact o_loadI rfl (by omega)
    | exact o_loadLI rfl rfl (by omega)
    | exact o_load1 rfl rfl rfl
    | exact o_loadR1 rfl rfl
    | exact o_loadA rfl rfl (by solve | exact Nat.le_of_ble_eq_true rfl | (show _ ≤ _; simp; done)) rfl
    | exact o_loadRA rfl (by solve | exact Nat.le_of_ble_eq_true rfl | (show _ ≤ _; simp; done)) rfl
    | exact o_field rfl rfl
    | exact o_fieldR rfl
    | exact o_add rfl rfl (wr (by omega))
    | exact o_sub rfl rfl (wr (by omega))
    | exact o_mul rfl rfl (wr (by omega))
    | exact o_lss rfl rfl
    | exact o_leq rfl rfl
    | exact o_gtr rfl rfl
    | exact o_geq rfl rfl
    | exact o_eql rfl rfl
    | exact o_neq rfl rfl
    | exact o_quoE rfl rfl (by omega) (by omega) (by omega)
    | exact o_remE rfl rfl (by omega) (by omega)
    | exact o_quoT rfl rfl (by omega) (by omega) (by omega)
    | exact o_quo rfl rfl (by omega) (wr (by omega))
    | exact o_rem rfl rfl (by omega) rfl
    | exact o_indexI rfl rfl (by omega) (by first | rfl | omega)
    | exact o_indexI' rfl rfl (by omega) (by omega) (by first | rfl | omega)
    | exact o_indexP rfl rfl (by omega) (by omega) rfl
    | exact o_indexL rfl rfl (by omega) (by omega) rfl
    | exact o_indexS rfl rfl (by omega) (by omega) (by assumption)
    | exact o_indexR rfl rfl (by omega) (by omega)
    | exact o_extract rfl rfl
    | exact o_eqlA rfl rfl rfl rfl rfl rfl
    | exact o_neqA rfl rfl rfl rfl rfl rfl
    | exact o_eqlB rfl rfl
    | exact o_neqB rfl rfl
    | exact o_index rfl rfl (by omega) (by omega) rfl
    | exact o_indexG rfl rfl (by omega) (by omega) (by solve | exact Nat.le_of_ble_eq_true rfl | (show _ ≤ _; simp; done)) rfl
    | exact o_fieldV rfl rfl
    | exact o_fieldVA rfl (by solve | exact Nat.le_of_ble_eq_true rfl | (show _ ≤ _; simp; done)) rfl
    | exact o_nilS rfl rfl
    | exact o_nilD rfl (by assumption) rfl
    | exact o_app0 rfl rfl
    | exact o_appN0 rfl rfl
    | exact o_nilL rfl rfl
    | exact o_makeFunc rfl
    | exact o_sliceHI rfl rfl (by omega)
    | exact o_sliceHI' rfl rfl (by omega) (by omega)
    | exact o_sliceLHI rfl rfl rfl (by omega) (by omega)
    | exact o_sliceLI rfl rfl (by omega)
    | exact o_sliceH rfl rfl (by omega)
    | exact o_sliceLH rfl rfl rfl (by omega) (by omega)
    | exact o_sliceL rfl rfl (by omega)
    | exact o_pickT (r := .d (.val _)) rfl (by (first | assumption | exact decide_eq_true (by first | assumption | omega) | exact not_t (by first | assumption | exact decide_eq_false (by first | assumption | omega)) | exact rfl)) rfl
    | exact o_pickF (r := .d (.val _)) rfl (by (first | assumption | exact decide_eq_false (by first | assumption | omega) | exact not_f (by first | assumption | exact decide_eq_true (by first | assumption | omega)) | exact rfl)) rfl
    | exact o_not rfl
    | exact o_neg rfl (wr (by omega))
    | exact o_buildS rfl rfl
    | exact o_buildA rfl rfl
    | exact o_lenS rfl
    | exact o_lenL rfl
    | exact o_lenN rfl
    | exact o_lenT rfl
    | exact o_max rfl rfl
    | exact o_min rfl rfl
    | exact o_conv rfl (wr (by omega))) : ∀ gd, Does P ⟨dst, op, ty, ps, af, gd⟩ s rd (.put r) := h
theorem dn {b : Blk} {r : AV} (h : ∀ gd, Does P ⟨dst, op, ty, ps, af, gd⟩ s rd (.newBlk b r) := by
    first
    | exact o_appN rfl (.own rfl rfl) (by solve | rfl | simp) (by omega) (by omega) (by omega)
    | exact o_appN rfl (.sl rfl) (by solve | rfl | simp) (by omega) (by omega) (by omega)
    | exact o_alloc rfl
    | exact o_box rfl rfl
    | exact o_buildSl rfl (by decide) rfl) : ∀ gd, Does P ⟨dst, op, ty, ps, af, gd⟩ s rd (.newBlk b r) := h
theorem ds {n : Nat} {b : Blk} (h : ∀ gd, Does P ⟨dst, op, ty, ps, af, gd⟩ s rd (.setBlk n b) := by
    first
    | exact o_store rfl rfl rfl rfl (by rfl) (by solve | exact Nat.le_of_ble_eq_true rfl | (show _ ≤ _; simp; done)) rfl) : ∀ gd, Does P ⟨dst, op, ty, ps, af, gd⟩ s rd (.setBlk n b) := h
theorem da {n : Nat} {b : Blk} {r : AV} (h : ∀ gd, Does P ⟨dst, op, ty, ps, af, gd⟩ s rd (.app n b r) := by
    first
    | ((apply o_app); (case hx => exact rfl); (case hm => exact rfl); (case hy => exact .own rfl rfl); (case hty => exact rfl); (case hl => exact (by solve | rfl | exact (ivs_len _ _).trans (Nat.mul_one _).symm | simp [ivs])); (case hcl => solve | rfl | simp); (case hpos => omega); (case hb => omega); (case hb2 => omega); (case hnew => exact rfl))
    | ((apply o_app); (case hx => exact rfl); (case hm => exact rfl); (case hy => exact .sl rfl); (case hty => exact rfl); (case hl => exact (by solve | rfl | exact (ivs_len _ _).trans (Nat.mul_one _).symm | simp [ivs])); (case hcl => solve | rfl | simp); (case hpos => omega); (case hb => omega); (case hb2 => omega); (case hnew => exact rfl))) : ∀ gd, Does P ⟨dst, op, ty, ps, af, gd⟩ s rd (.app n b r) := h
theorem oc {f : FuncId} {args : Array Operand} {ats : Array TypeId} {dvs : List DV} {r : DV} [he : EntI P f] (hv : viewL s args.toList = some (dvs, rd)) (hAC : AC P f dvs r) (hfl : rd = [] ∨ r.flat = true := by first | exact .inl rfl | exact .inr rfl) (gd : Option (Nat × Bool)) :
    Does P ⟨dst, .call ⟨.value (.func f), args, ats⟩, ty, ps, af, gd⟩ s rd (.put (.d r)) := o_call hv hAC hfl gd
theorem rl {l : List ResultVar} {ds : List DV} (h : ResL P s l ds := by
    repeat (first | exact res_nil | (apply res_tmp; (focus exact rfl)) | (apply res_own; (focus exact rfl); (focus exact rfl)) | (apply res_cell1; (focus exact rfl); (focus exact rfl); (focus exact rfl)) | (apply res_cellA; (focus exact rfl); (focus exact rfl); (focus (solve | exact Nat.le_of_ble_eq_true rfl | simp))))) : ResL P s l ds := h
end

end Go.Proofs.Ytgjhikjnlcbmkaa

/- A slice that is built and never written. Nothing of the program. -/
namespace Go.Proofs.Ytgjhikjnlcbmkaa
open Go.RowKit

section
variable {P : Program} {s : AS} {ty : TypeId} {ps : String} {af : Array Edge} {dst : Option Tmp} {gd : Option (Nat × Bool)} {t : TypeId}
theorem does_buildSlD {n e sz bytes : Nat} {parts : Array (Nat × Operand)} {zs : List Value} {ps' : List (Nat × DV)} {r : List DV} (ht : sliOf P t = some (e, sz, bytes, zs)) (hp : partsOf s parts.toList = some ps') (hn : n * sz ≤ 16777216)
    (hr : afill (fun i => some (i * sz, sz)) ((zeros zs (n * sz)).map DV.val) ps' = some r) : Does P ⟨dst, .buildSlice t n parts, ty, ps, af, gd⟩ s [] (.put (.d (.slice n r))) :=
  ⟨fun c s' φ a w K Q hR hop _ hd _ hK => by
    obtain ⟨i, z, hu, hi, hz, hsz, _, hzc, hzs, hpos, ho⟩ := sliOf_parts ht
    obtain ⟨h1, h2⟩ := partsOf_rep hR parts.toList ps' (fun p hp => hop p.2 (by simp [Op.operands]; exact ⟨p.1, by simpa using hp⟩)) hp
    have hzl : zs.length = sz := by rw [← hzc]; simpa using hzs
    have hz0 : ((Array.range (n * sz)).map fun j => z.cells[j % z.cells.size]!).toList = zeros zs (n * sz) := by
      rw [Array.toList_map, Array.toList_range]
      unfold zeros
      refine List.map_congr_left fun j _ => ?_
      have hlt : j % z.cells.size < z.cells.size := Nat.mod_lt _ (by omega)
      rw [← hzc]
      simp [hlt]
    have hzo : Ones (zeros zs (n * sz)) := by
      intro u hu2
      unfold zeros at hu2
      obtain ⟨j, _, rfl⟩ := List.mem_map.1 hu2
      have hlt : j % zs.length < zs.length := Nat.mod_lt _ (by omega)
      rw [List.getD_eq_getElem?_getD, List.getElem?_eq_getElem hlt]
      exact ho _ (List.getElem_mem hlt)
    obtain ⟨us, h3, h4, h5⟩ := fill_sim (fun i => some (i * sz, sz)) ps' _ _ ((Array.range (n * sz)).map fun j => z.cells[j % z.cells.size]!) r h1 h2 (by rw [hz0]; exact repL_vals _) (by rw [hz0]; exact hzo) hr
    have hrl := repL_length h5
    have hfs : ∀ (parts : List (Nat × Value)) (cs : Array Value) (us : Array Value), Instr.fill (fun i => some (i * sz, sz)) cs parts = some us → us.size = cs.size := by
      intro parts
      induction parts with
      | nil => intro cs us h; simp only [Instr.fill, Option.some.injEq] at h; rw [h]
      | cons p l ih =>
        intro cs us h
        obtain ⟨j, v⟩ := p
        simp only [Instr.fill] at h
        split at h
        · cases h
        · rw [ih _ _ h]
          rw [← Array.foldl_toList, Array.toList_zipIdx]
          have : ∀ (l : List (Value × Nat)) (cs : Array Value), (l.foldl (fun cs (x : Value × Nat) => cs.setIfInBounds (j * sz + x.2) x.1) cs).size = cs.size := by
            intro l
            induction l with
            | nil => intro cs; rfl
            | cons q l ih2 => intro cs; rw [List.foldl_cons, ih2]; simp
          exact this _ _
    have hsz2 : us.size = n * sz := by rw [hfs _ _ _ h3]; simp
    have hpa : (parts.map fun x => (x.1, a.eval x.2)).toList = parts.toList.map fun p => (p.1, a.eval p.2) := by simp
    unfold Oper.wp
    have hrun : (execOp a.eval ⟨dst, .buildSlice t n parts, ty, ps, af, gd⟩).run P w = .ok (.value (.slice (some ⟨w.heap.size, 0, none⟩) n n)) (w.alloc (.cells us e)) := by
      have hso : (sizeOf e).run P w = .ok sz w := by simp [sizeOf, typeInfo, hi, hsz]
      have hzv : (zeroValue e).run P w = .ok z w := by simp [zeroValue, typeInfo, hi, hz]
      have hnr : (newRow e us).run P w = .ok ⟨w.heap.size, 0, none⟩ (w.alloc (.cells us e)) := rfl
      have hng : ¬ n * sz > 2 ^ 24 := by omega
      simp only [execOp, Instr.buildSlice, Sem.run_bind, run_underlying hu w, Result.andThen_ok, hso, hng, if_false]
      by_cases h0 : n * sz = 0
      · have hus : us = #[] := by apply Array.eq_empty_of_size_eq_zero; omega
        have h30 := h3
        rw [h0] at h30
        simp only [h0, if_true, Sem.run_bind, Sem.run_pure, Result.andThen_ok, hpa]
        have : (Array.range 0).map (fun j => (#[] : Array Value)[j % (#[] : Array Value).size]!) = (Array.range 0).map (fun j => z.cells[j % z.cells.size]!) := by simp
        rw [this, h30]
        simp only [Sem.run_bind, hnr, Result.andThen_ok, Sem.run_pure]
      · simp only [h0, if_false, Sem.run_bind, hzv, Result.andThen_ok, Sem.run_pure, hpa, h3, hnr]
    rw [hrun]
    have hbel : Below w.heap.size w (w.alloc (.cells us e)) := (Below.refl _ _).alloc (Nat.le_refl _) _
    have hR' := hR.below' hbel
    refine hK φ _ _ (hR'.put hd ?_)
    show DV.rep _ _ (.slice n r) _
    rw [DV.rep]
    refine ⟨_, n, rfl, Nat.le_refl _, ?_, fun hne => ⟨w.heap.size, 0, us.toList, rfl, .inr ⟨.inl hR.below.size, fun nm hnm => ?_⟩, by simp, ?_, h4, ?_⟩⟩
    · unfold maxLen
      have : n * 1 ≤ n * sz := Nat.mul_le_mul_left _ hpos
      omega
    · have := hR.lt hnm
      omega
    · intro j u hj
      have hheap : (w.alloc (.cells us e)).heap[w.heap.size]? = some (.cells us e (0, 0)) := by
        show (w.heap.push _)[w.heap.size]? = _
        simp
      have hc := cell_of_row (w.alloc (.cells us e)) w.heap.size (0 + j) us e (0, 0) hheap
      rw [hc]
      simpa using hj
    · exact DV.repL_keeps ⟨fun b hb _ => hb, hbel.size, fun b o u _ hl hc => (hbel.cell (p := ⟨b, o, none⟩) hl).trans hc⟩ _ _ h5
  ⟩

theorem o_buildSlD {n e sz bytes : Nat} {parts : Array (Nat × Operand)} {zs : List Value} {ps' : List (Nat × DV)} {r : List DV} [ht : SliI P t e sz bytes zs] (hp : partsOf s parts.toList = some ps') (hn : n * sz ≤ 16777216)
    (hr : afill (fun i => some (i * sz, sz)) ((zeros zs (n * sz)).map DV.val) ps' = some r) (gd : Option (Nat × Bool)) : Does P ⟨dst, .buildSlice t n parts, ty, ps, af, gd⟩ s [] (.put (.d (.slice n r))) := does_buildSlD ht.eq hp hn hr
end

end Go.Proofs.Ytgjhikjnlcbmkaa

/- What is handed in, as values without addresses. Nothing of the program. -/
namespace Go.Proofs.Ytgjhikjnlcbmkaa
open Go.RowKit Go.ChangeShapes Go.WideShapes Go.ChangeAt

def ShpL (rec : TypeId → List DV → Prop) : List TypeId → List (List DV) → Prop
  | [], css => css = []
  | t :: ts, css => ∃ c cs, css = c :: cs ∧ rec t c ∧ ShpL rec ts cs
def Shp (P : Program) : Nat → TypeId → List DV → Prop
  | 0, _, _ => False
  | d + 1, t, cs =>
    match P.underlying t with
    | some .bool => ∃ b, cs = [.val (.bool b)]
    | some (.int k) => ∃ n, cs = [.val (.int k n)] ∧ (Lit.int k n).wf = true
    | some .string => ∃ s, cs = [.val (.string s)] ∧ s.size ≤ reachBytes
    | some (.slice e) => ∃ css : List (List DV), cs = [.slice css.length css.flatten] ∧ css.length * P.bytesOf e ≤ reachBytes ∧ ∀ c ∈ css, Shp P d e c
    | some (.struct fs) => ∃ css : List (List DV), cs = css.flatten ∧ ShpL (Shp P d) (fs.toList.map (·.type)) css
    | some (.array n e) => ∃ css : List (List DV), cs = css.flatten ∧ css.length = n ∧ ∀ c ∈ css, Shp P d e c
    | _ => False
def seqFs (P : Program) : List Field → Nat → Option Nat
  | [], off => some off
  | f :: fs, off => bif Nat.beq f.offset off then seqFs P fs (off + P.cellsOf f.type) else none
def plainT (P : Program) : Nat → TypeId → Bool
  | 0, _ => false
  | d + 1, t =>
    match P.underlying t with
    | some .bool | some (.int _) | some .string => true
    | some (.slice e) => plainT P d e && Nat.blt 0 (P.cellsOf e)
    | some (.struct fs) => fs.toList.all (fun f => plainT P d f.type) && (seqFs P fs.toList 0 == some (P.cellsOf t))
    | some (.array n e) => plainT P d e && Nat.beq (n * P.cellsOf e) (P.cellsOf t)
    | _ => false

section
variable {P : Program} {H : Type} {enc : TypeId × Value → H} {w : World} {base : Nat} {sp : Nat → Bool} {held : Bool}

def Fits (w : World) (Q : List DV → Prop) (vs : List Value) : Prop := ∃ cs, DV.repL (fun _ => True) w cs vs ∧ Ones vs ∧ Q cs
theorem ones_append {l1 l2 : List Value} (h1 : Ones l1) (h2 : Ones l2) : Ones (l1 ++ l2) := fun u hu => (List.mem_append.1 hu).elim (h1 u) (h2 u)
theorem flat_rep {Q : List DV → Prop} : ∀ (vss : List (List Value)), (∀ vs ∈ vss, Fits w Q vs) → ∃ css : List (List DV), css.length = vss.length ∧ (∀ c ∈ css, Q c) ∧ DV.repL (fun _ => True) w css.flatten vss.flatten ∧ Ones vss.flatten
  | [], _ => ⟨[], rfl, by simp, by simp [repL_nil], fun u hu => by simp at hu⟩
  | vs :: vss, h => by
    obtain ⟨cs, h1, h2, h3⟩ := h vs List.mem_cons_self
    obtain ⟨css, i1, i2, i3, i4⟩ := flat_rep vss fun v hv => h v (List.mem_cons_of_mem _ hv)
    refine ⟨cs :: css, by simp [i1], fun c hc => ?_, ?_, ?_⟩
    · rcases List.mem_cons.1 hc with rfl | hc
      · exact h3
      · exact i2 c hc
    · rw [List.flatten_cons, List.flatten_cons]; exact repL_append h1 i3
    · rw [List.flatten_cons]; exact ones_append h2 i4
theorem fields_rep {Q : TypeId → List DV → Prop} : ∀ (fs : List Field) (off : Nat) (vs : List Value), seqFs P fs off = some vs.length → (∀ f ∈ fs, Fits w (Q f.type) ((vs.drop f.offset).take (P.cellsOf f.type))) →
    ∃ css : List (List DV), ShpL Q (fs.map (·.type)) css ∧ DV.repL (fun _ => True) w css.flatten (vs.drop off) ∧ Ones (vs.drop off)
  | [], off, vs, h, _ => by
    simp only [seqFs, Option.some.injEq] at h
    subst h
    exact ⟨[], rfl, by simp [repL_nil], fun u hu => by simp at hu⟩
  | f :: fs, off, vs, h, hf => by
    simp only [seqFs] at h
    cases hb : Nat.beq f.offset off
    · rw [hb] at h; cases h
    · rw [hb] at h
      have hb := Nat.eq_of_beq_eq_true hb
      obtain ⟨css, i1, i2, i3⟩ := fields_rep fs _ vs h fun g hg => hf g (List.mem_cons_of_mem _ hg)
      obtain ⟨cs, h1, h2, h3⟩ := hf f List.mem_cons_self
      rw [hb] at h1 h2
      have e : vs.drop off = (vs.drop off).take (P.cellsOf f.type) ++ vs.drop (off + P.cellsOf f.type) := by
        rw [← List.drop_drop, List.take_append_drop]
      refine ⟨cs :: css, ⟨cs, css, rfl, h3, i1⟩, ?_, ?_⟩
      · rw [e, List.flatten_cons]; exact repL_append h1 i2
      · rw [e]; exact ones_append h2 i3
theorem chunks_flat {c : Nat} {vs : List Value} : ∀ (r j : Nat), (j + r) * c = vs.length → ((List.range' j r).map fun i => (vs.drop (i * c)).take c).flatten = vs.drop (j * c)
  | 0, j, h => by
    rw [Nat.add_zero] at h
    simp [h]
  | r + 1, j, h => by
    rw [List.range'_succ, List.map_cons, List.flatten_cons, chunks_flat r (j + 1) (by rw [← h]; congr 1; omega), Nat.succ_mul, ← List.drop_drop, List.take_append_drop]
theorem cellsAt_append {b o : Nat} {l1 l2 : List Value} (h1 : CellsAt w b o l1) (h2 : CellsAt w b (o + l1.length) l2) : CellsAt w b o (l1 ++ l2) := by
  intro j u hj
  rcases Nat.lt_or_ge j l1.length with h | h
  · rw [List.getElem?_append_left h] at hj; exact h1 j u hj
  · rw [List.getElem?_append_right h] at hj
    have := h2 _ u hj
    rwa [Nat.add_assoc, Nat.add_sub_cancel' h] at this
theorem cellsAt_flat {b o c : Nat} {g : Nat → List Value} : ∀ (r j : Nat), (∀ i, j ≤ i → i < j + r → (g i).length = c ∧ CellsAt w b (o + i * c) (g i)) → CellsAt w b (o + j * c) (((List.range' j r).map g).flatten)
  | 0, j, _ => by intro k u hk; simp at hk
  | r + 1, j, h => by
    rw [List.range'_succ, List.map_cons, List.flatten_cons]
    obtain ⟨h1, h2⟩ := h j (Nat.le_refl _) (by omega)
    refine cellsAt_append h2 ?_
    have := cellsAt_flat (o := o) r (j + 1) fun i hi hi2 => h i (by omega) (by omega)
    rw [h1, Nat.add_assoc, ← Nat.succ_mul]
    exact this
theorem cell_spot {b o s : Nat} : w.cell? ⟨b, o, some s⟩ = none := by
  unfold World.cell?
  split <;> simp

theorem weights_all {e : TypeId} {n : Nat} : ∀ {l : List (DataW H)} {x : DataW H}, x ∈ l → n ∈ x.weights P e → n ∈ DataW.weightsAll P e l
  | y :: l, x, hx, hn => by
    simp only [DataW.weightsAll, List.mem_append]
    rcases List.mem_cons.1 hx with rfl | hx
    · exact .inl hn
    · exact .inr (weights_all hx hn)

theorem trod_shp : ∀ (d : Nat) (t : TypeId) (vs : List Value) (fuel : Nat) (x : DataW H × List MemPlace), plainT P d t = true → DataW.trod enc P w base sp held fuel t vs = some x → (∀ n ∈ x.1.weights P t, n ≤ reachBytes) → Fits w (Shp P d t) vs
  | 0, _, _, _, _, h, _, _ => by simp [plainT] at h
  | d + 1, t, vs, fuel, x, h, hx, hwt => by
    have ih := trod_shp d
    unfold plainT at h
    unfold Fits Shp
    split at h
    · rename_i hu
      obtain ⟨b, rfl, _⟩ := DataW.trod_bool hu hx
      exact ⟨[.val (.bool b)], repL_vals [.bool b], fun u hu => by simp at hu; subst hu; rfl, b, rfl⟩
    · rename_i k hu
      obtain ⟨n, rfl, _, hw⟩ := DataW.trod_int hu hx
      exact ⟨[.val (.int k n)], repL_vals [.int k n], fun u hu => by simp at hu; subst hu; rfl, n, rfl, hw⟩
    · rename_i hu
      obtain ⟨s, rfl, rfl, hs⟩ := DataW.trod_string hu hx
      have hs : s.size ≤ reachBytes := hwt _ (by simp [DataW.weights])
      exact ⟨[.val (.string s)], repL_vals [.string s], fun u hu => by simp at hu; subst hu; rfl, s, rfl, hs⟩
    · rename_i e hu
      simp only [Bool.and_eq_true] at h
      obtain ⟨h1, h2⟩ := h
      have h2 : 0 < P.cellsOf e := Nat.le_of_ble_eq_true h2
      rcases Deep.open_slice hu hx with ⟨rfl, _⟩ | ⟨a, len, cap, m, n, D, Pl, rfl, _, hlc, hcm, hm, rfl, hel⟩
      · refine ⟨[.slice 0 []], repL_cons'.2 ⟨?_, repL_nil.2 rfl⟩, fun u hu => by simp at hu; subst hu; rfl, [], rfl, by simp, by simp⟩
        rw [DV.rep]
        exact ⟨none, 0, rfl, Nat.le_refl _, Nat.zero_le _, fun h => absurd rfl h⟩
      · have hlm : len ≤ m := by rw [hm]; split <;> omega
        let g : Nat → List Value := fun i => (w.cells? base (a.add (i * P.cellsOf e)) (P.cellsOf e)).getD []
        have hg : ∀ i, i < len → w.cells? base (a.add (i * P.cellsOf e)) (P.cellsOf e) = some (g i) ∧ Fits w (Shp P d e) (g i) := fun i hi => by
          obtain ⟨cs', hc, ht⟩ := hel i (by omega)
          have : g i = cs' := by show (w.cells? base (a.add (i * P.cellsOf e)) (P.cellsOf e)).getD [] = cs'; rw [hc]; rfl
          rw [this]
          exact ⟨hc, ih e cs' _ _ h1 ht fun q hq => hwt q (by
            simp only [DataW.weights, hu]
            exact List.mem_cons_of_mem _ (List.mem_append.2 (.inl (weights_all (List.mem_map.2 ⟨i, List.mem_range.2 hi, rfl⟩) hq))))⟩
        obtain ⟨css, i1, i2, i3, i4⟩ := flat_rep (w := w) (Q := Shp P d e) ((List.range' 0 len).map g) fun vs hvs => by
          obtain ⟨i, hi, rfl⟩ := List.mem_map.1 hvs
          rw [List.mem_range'_1] at hi
          exact (hg i (by omega)).2
        have hcl : css.length = len := by rw [i1]; simp
        have hby : css.length * P.bytesOf e ≤ reachBytes := by
          have := hwt ((len + (m - len)) * P.bytesOf e) (by simp [DataW.weights, hu])
          exact Nat.le_trans (Nat.mul_le_mul_right _ (by omega)) this
        refine ⟨[.slice css.length css.flatten], repL_cons'.2 ⟨?_, repL_nil.2 rfl⟩, fun u hu => by simp at hu; subst hu; rfl, css, rfl, hby, i2⟩
        rw [DV.rep]
        refine ⟨some a, cap, by rw [hcl], by omega, hcm, fun hne => ?_⟩
        have hpos : 0 < len := by
          rcases Nat.eq_zero_or_pos len with h0 | h0
          · exfalso; apply hne
            have : css = [] := List.eq_nil_of_length_eq_zero (by omega)
            rw [this]; rfl
          · exact h0
        obtain ⟨hc0, _⟩ := hg 0 hpos
        obtain ⟨_, hl0, hcell0⟩ := World.cells?_some hc0
        have hlt := World.cells?_block hc0 h2
        obtain ⟨b, o, s⟩ := a
        cases s with
        | some s =>
          exfalso
          have h5 := hcell0 0 h2
          have : (g 0)[0]? ≠ none := by
            intro h6; rw [List.getElem?_eq_none_iff] at h6; omega
          apply this
          rw [← h5]
          simp only [Nat.zero_mul]
          have h7 : ((⟨b, o, some s⟩ : Addr).add 0).add 0 = (⟨b, o, some s⟩ : Addr) := by unfold Addr.add; simp
          rw [h7]
          exact cell_spot
        | none =>
          refine ⟨b, o, ((List.range' 0 len).map g).flatten, rfl, trivial, by rw [addr_add] at hlt; exact hlt, ?_, i4, i3⟩
          have := cellsAt_flat (w := w) (b := b) (o := o) (c := P.cellsOf e) (g := g) len 0 fun i _ hi => by
            obtain ⟨hc, _⟩ := hg i (by omega)
            obtain ⟨_, hl, hcell⟩ := World.cells?_some hc
            refine ⟨hl, fun j u hj => ?_⟩
            have hjl := (List.getElem?_eq_some_iff.1 hj).1
            have := hcell j (by omega)
            rw [addr_add, addr_add, hj] at this
            exact this
          rwa [Nat.zero_mul, Nat.add_zero] at this
    · rename_i fs hu
      simp only [Bool.and_eq_true, List.all_eq_true, beq_iff_eq] at h
      obtain ⟨h1, h2⟩ := h
      obtain ⟨xs, n, _, rfl, hl, hlen, hf⟩ := DataW.trod_struct hu hx
      obtain ⟨css, i1, i2, i3⟩ := fields_rep (w := w) (Q := Shp P d) fs.toList 0 vs (by rw [h2, hl]) fun f hfm => by
        obtain ⟨i, hi, hfi⟩ := List.mem_iff_getElem.1 hfm
        have hfi2 : fs[i]? = some f := by rw [← hfi]; simp at hi; simp [hi]
        have ht := hf i f hfi2
        have hxi : i < xs.length := by rw [hlen]; simpa using hi
        rw [List.getElem?_eq_getElem hxi] at ht
        exact ih f.type _ _ _ (h1 f hfm) ht fun q hq => hwt q (by
          simp only [DataW.weights, hu]
          exact DataW.weights_mem_each (j := i) (t := f.type) (d := xs[i].1) (by rw [List.getElem?_map]; simp [hfi2]) (by simp [hxi]) q hq)
      rw [List.drop_zero] at i2 i3
      exact ⟨css.flatten, i2, i3, css, rfl, i1⟩
    · rename_i n e hu
      simp only [Bool.and_eq_true] at h
      obtain ⟨h1, h2⟩ := h
      have h2 := Nat.eq_of_beq_eq_true h2
      obtain ⟨xs, m, _, rfl, hl, hlen, hel⟩ := DataW.trod_array hu hx
      obtain ⟨css, i1, i2, i3, i4⟩ := flat_rep (w := w) (Q := Shp P d e) ((List.range' 0 n).map fun i => (vs.drop (i * P.cellsOf e)).take (P.cellsOf e)) fun v hv => by
        obtain ⟨i, hi, rfl⟩ := List.mem_map.1 hv
        rw [List.mem_range'_1] at hi
        have ht := hel i (by omega)
        have hxi : i < xs.length := by omega
        rw [List.getElem?_eq_getElem hxi] at ht
        exact ih e _ _ _ h1 ht fun q hq => hwt q (by
          simp only [DataW.weights, hu]
          exact weights_all (List.mem_map.2 ⟨_, List.getElem_mem hxi, rfl⟩) hq)
      rw [chunks_flat n 0 (by rw [Nat.zero_add, h2, hl]), Nat.zero_mul, List.drop_zero] at i3 i4
      exact ⟨css.flatten, i3, i4, css, rfl, by rw [i1]; simp, i2⟩
    · cases h
end

end Go.Proofs.Ytgjhikjnlcbmkaa

/- From a contract on abstract values to a law's statement. Nothing of the program. -/
namespace Go.Proofs.Ytgjhikjnlcbmkaa
open Go.RowKit Go.ChangeShapes Go.WideShapes Go.ChangeAt

def aggB (P : Program) (t : TypeId) : Bool := match P.underlying t with | some (.struct _) | some (.array _ _) => true | _ => false
def argOf (P : Program) (t : TypeId) (cs : List DV) : DV := bif aggB P t then .agg cs else cs.headD .any
def ArgsShp (P : Program) (d : Nat) : List TypeId → List DV → Prop
  | [], l => l = []
  | t :: ts, l => ∃ cs l', l = argOf P t cs :: l' ∧ Shp P d t cs ∧ ArgsShp P d ts l'

section
variable {P : Program} {H : Type} {enc : TypeId × Value → H} {w : World} {base : Nat} {sp : Nat → Bool} {held : Bool}
theorem arg_rep {d : Nat} {t : TypeId} {v : Value} {r : Reach} {b0 : Nat} {x : DataW H} {ps : List MemPlace} (hp : plainT P d t = true) (hval : Value.okWide P w r b0 t v) (h : DataW.Trod enc P w base sp held t v x ps) (hwt : ∀ n ∈ x.weights P t, n ≤ reachBytes) :
    ∃ cs, Shp P d t cs ∧ (argOf P t cs).rep (fun _ => True) w v := by
  obtain ⟨fuel, hf⟩ := h
  obtain ⟨cs, h1, h2, h3⟩ := trod_shp d t _ fuel _ hp hf hwt
  refine ⟨cs, h3, ?_⟩
  have one : v.cells = #[v] → (cs.headD .any).rep (fun _ => True) w v := fun e => by
    rw [e] at h1
    cases cs with
    | nil => rw [repL_nil] at h1; simp at h1
    | cons c l =>
      obtain ⟨u, us, e2, h4, _⟩ := repL_cons.1 h1
      simp only [List.cons.injEq] at e2
      rw [e2.1]; exact h4
  have agg : ∀ arr, v = .agg arr → (DV.agg cs).rep (fun _ => True) w v := fun arr e => by
    subst e
    rw [DV.rep]
    exact ⟨arr.toList, by simp, h2, h1⟩
  cases d with
  | zero => simp [plainT] at hp
  | succ d =>
    unfold plainT at hp
    unfold argOf aggB
    split at hp
    · rename_i hu
      rw [hu]
      refine one ?_
      simp only [Value.okWide, hu, Cell.okWide] at hval
      cases v <;> first | exact rfl | (simp [Cell.ok, hu] at hval; done)
    · rename_i k hu
      rw [hu]
      obtain ⟨n, rfl⟩ := okWide_int hu hval
      exact one rfl
    · rename_i hu
      rw [hu]
      obtain ⟨s, rfl⟩ := okWide_string hu hval
      exact one rfl
    · rename_i e hu
      rw [hu]
      obtain ⟨a, l, c, rfl⟩ := okWide_slice hu hval
      exact one rfl
    · rename_i fs hu
      rw [hu]
      obtain ⟨arr, e, _⟩ := okWide_struct hu hval
      exact agg arr e
    · rename_i n e hu
      rw [hu]
      simp only [Value.okWide, hu] at hval
      obtain ⟨arr, e, _⟩ := hval
      exact agg arr e
    · cases hp
theorem args_rep {d : Nat} {r : Reach} {b0 : Nat} : ∀ (ts : List TypeId) (vs : List Value) (ds : List (DataW H)) (ps : List MemPlace), (∀ t ∈ ts, plainT P d t = true) → (∀ (j : Nat) t v, ts[j]? = some t → vs[j]? = some v → Value.okWide P w r b0 t v) →
    DataW.TrodAll enc P w base sp held ts vs ds ps → (∀ n ∈ DataW.weightsEach P ts ds, n ≤ reachBytes) → ∃ dvs, ArgsShp P d ts dvs ∧ DV.repL (fun _ => True) w dvs vs
  | [], vs, ds, ps, _, _, h, _ => by
    cases vs with
    | nil => exact ⟨[], rfl, repL_nil.2 rfl⟩
    | cons v vs => exact absurd h (by simp [DataW.TrodAll])
  | t :: ts, vs, ds, ps, hp, hv, h, hwt => by
    obtain ⟨v, vs', x, ds', a, b, rfl, rfl, rfl, h1, h2⟩ := trodAll_cons h
    obtain ⟨cs, c1, c2⟩ := arg_rep (hp t List.mem_cons_self) (hv 0 t v rfl rfl) h1 (fun n hn => hwt n (by simp only [DataW.weightsEach]; exact List.mem_append.2 (.inl hn)))
    obtain ⟨dvs, d1, d2⟩ := args_rep ts vs' ds' b (fun u hu => hp u (List.mem_cons_of_mem _ hu)) (fun j u v hj hv' => hv (j + 1) u v hj hv') h2 (fun n hn => hwt n (by simp only [DataW.weightsEach]; exact List.mem_append.2 (.inr hn)))
    exact ⟨argOf P t cs :: dvs, ⟨cs, dvs, rfl, c1, d1⟩, repL_cons'.2 ⟨c2, d2⟩⟩
theorem trodAll_below (hl : laidOutB P = true) {W W' : World} (hb : Below W.heap.size W W') : ∀ (ts : List TypeId) (vs : List Value) (ds : List (DataW H)) (ps : List MemPlace), (∀ t ∈ ts, P.readableRec t = true ∧ t < P.types.size) → (∀ x ∈ ps, x.block < W.heap.size) →
    DataW.TrodAll enc P W 0 (fun _ => true) true ts vs ds ps → DataW.TrodAll enc P W' 0 (fun b => decide (b < W.heap.size)) true ts vs ds ps
  | [], vs, ds, ps, _, _, h => by
    cases vs with
    | nil => cases ds with
      | nil => exact h
      | cons x l => exact h.elim
    | cons v l => exact absurd h (by simp [DataW.TrodAll])
  | t :: ts, vs, ds, ps, hr, hlt, h => by
    obtain ⟨v, vs', x, ds', a, b, rfl, rfl, rfl, h1, h2⟩ := trodAll_cons h
    obtain ⟨r1, r2⟩ := hr t List.mem_cons_self
    exact ⟨a, b, Below.trod hl r1 r2 h1 hb (fun y hy => hlt y (List.mem_append.2 (.inl hy))), trodAll_below hl hb ts vs' ds' b (fun u hu => hr u (List.mem_cons_of_mem _ hu)) (fun y hy => hlt y (List.mem_append.2 (.inr hy))) h2, rfl⟩

theorem law_post {f : Func} {s : ChangeSpec} {apart fresh handsOn : Bool} {W W' : World} {args : Array Value} {ds gs : List (DataW H)} {before : List MemPlace} {t : TypeId} (hW : DataW.Whole enc P f.params.toList s.vars apart W args.toList ds gs before) (hv : s.vars = [])
    (hfn : s.fn H ds = { results := [.lit (.bool true)], args := ds }) (hres : f.resultTypes = #[t]) (htb : P.underlying t = some .bool) (hl : laidOutB P = true) (hr : ∀ u ∈ f.params.toList, P.readableRec u = true ∧ u < P.types.size) (hb : Below W.heap.size W W') :
    s.post enc P f apart fresh handsOn false W args (.bool true) W' := by
  have hlt := hW.lt
  have hW' := hW
  obtain ⟨p, q, h1, h2, rfl, h3, h4⟩ := hW
  rw [hv] at h2
  obtain ⟨rfl, rfl⟩ := trodVars_none h2
  refine ⟨ds, [], p ++ [], [], p, [], hW', ?_, ?_, ?_, hb.frame _, fun h => by cases h⟩
  · rw [List.append_nil, hfn, hres]
    exact trodAll_mk1 (shut_bool htb true)
  · rw [List.append_nil, hfn]
    exact trodAll_below hl hb _ _ _ _ hr (fun x hx => hlt x (by simpa using hx)) h1
  · rw [hv, List.append_nil, hfn]
    rfl
end

end Go.Proofs.Ytgjhikjnlcbmkaa

/- The shapes of arguments, opened. Nothing of the program. -/
namespace Go.Proofs.Ytgjhikjnlcbmkaa
open Go.RowKit Go.ChangeShapes Go.WideShapes Go.ChangeAt

section
variable {P : Program} {d : Nat} {t e : TypeId} {cs : List DV}
theorem shp_int (hu : P.underlying t = some (.int .i64)) (h : Shp P (d + 1) t cs) : ∃ n, cs = [I n] ∧ I64 n := by
  unfold Shp at h; rw [hu] at h
  obtain ⟨n, h1, h2⟩ := h
  refine ⟨n, h1, ?_⟩
  simp [Lit.wf, IntKind.min, IntKind.max, IntKind.signed, IntKind.bits] at h2
  exact ⟨by omega, by omega⟩
theorem shp_string (hu : P.underlying t = some .string) (h : Shp P (d + 1) t cs) : ∃ s, cs = [S s] ∧ s.size ≤ 140737488355328 := by
  unfold Shp at h; rw [hu] at h
  obtain ⟨s, h1, h2⟩ := h
  exact ⟨s, h1, by unfold reachBytes at h2; omega⟩
theorem shp_slice (hu : P.underlying t = some (.slice e)) (h : Shp P (d + 1) t cs) : ∃ css : List (List DV), cs = [.slice css.length css.flatten] ∧ css.length * P.bytesOf e ≤ reachBytes ∧ ∀ c ∈ css, Shp P d e c := by
  unfold Shp at h; rw [hu] at h
  obtain ⟨css, h1, h2, h3⟩ := h
  exact ⟨css, h1, h2, h3⟩
theorem shp_struct {fs : Array Field} (hu : P.underlying t = some (.struct fs)) (h : Shp P (d + 1) t cs) : ∃ css : List (List DV), cs = css.flatten ∧ ShpL (Shp P d) (fs.toList.map (·.type)) css := by
  unfold Shp at h; rw [hu] at h; exact h
theorem shp_array {n : Nat} (hu : P.underlying t = some (.array n e)) (h : Shp P (d + 1) t cs) : ∃ css : List (List DV), cs = css.flatten ∧ css.length = n ∧ ∀ c ∈ css, Shp P d e c := by
  unfold Shp at h; rw [hu] at h; exact h
theorem shp_ints (hby : P.bytesOf e = 8) (hu : P.underlying t = some (.slice e)) (he : P.underlying e = some (.int .i64)) (h : Shp P (d + 2) t cs) : ∃ xs : List Int, cs = [isl xs] ∧ xs.length ≤ 140737488355328 ∧ ∀ x ∈ xs, I64 x := by
  obtain ⟨css, rfl, h1, h2⟩ := shp_slice hu h
  rw [hby] at h1
  unfold reachBytes at h1
  have key : ∀ css : List (List DV), (∀ c ∈ css, Shp P (d + 1) e c) → ∃ xs : List Int, css.flatten = ivs xs ∧ xs.length = css.length ∧ ∀ x ∈ xs, I64 x := by
    intro css
    induction css with
    | nil => intro _; exact ⟨[], rfl, rfl, by simp⟩
    | cons c css ih =>
      intro h
      obtain ⟨xs, i1, i2, i3⟩ := ih fun c hc => h c (List.mem_cons_of_mem _ hc)
      obtain ⟨n, rfl, hn⟩ := shp_int he (h c List.mem_cons_self)
      refine ⟨n :: xs, by rw [List.flatten_cons, i1]; rfl, by simp [i2], fun x hx => ?_⟩
      rcases List.mem_cons.1 hx with rfl | hx
      · exact hn
      · exact i3 x hx
  obtain ⟨xs, k1, k2, k3⟩ := key css h2
  refine ⟨xs, ?_, by omega, k3⟩
  rw [k1, ← k2]
end

end Go.Proofs.Ytgjhikjnlcbmkaa

/- The moves of a walk under short names: a walk's text is written often. Nothing of the program. -/
namespace Go.Proofs.Ytgjhikjnlcbmkaa
open Go.RowKit

section
variable {P : Program} {c : Fam} {Q : Exit → AS → Prop} {s : AS}
theorem zR {id : Nat} {l : List Oper} (hd : dstsB c.nt l = true) (h : RunT P l.toArray l s fun _ t => Q .normal t) : AWp P c (.region id l.toArray false) Q s := awp_region hd h
theorem zW (hm : P.follows .mixedOrders = true) {id : Nat} {l : List Oper} (hd : dstsB c.nt l = true) (h : RunT P l.toArray l s fun rs t => regOk l.toArray rs = true ∧ Q .normal t) : AWp P c (.region id l.toArray true) Q s := awp_region_any hm hd h
theorem zC {cnd : Operand} {x y : Code} {b : Bool} (hc : s.ev cnd = .d (.val (.bool b))) (ht : b = true → AWp P c x Q s) (hf : b = false → AWp P c y Q s) : AWp P c (.cond cnd x y) Q s := awp_cond hc ht hf
end
section
variable {P : Program} {c : Fam} {Q : Exit → AS → Prop} {s : AS} {cnd : Operand} {x y : Code}
theorem zCD {p : Prop} {_ : Decidable p} (hc : s.ev cnd = .d (.val (.bool (decide p)))) (h1 : p → AWp P c x Q s) (h2 : ¬ p → AWp P c y Q s) : AWp P c (.cond cnd x y) Q s := awp_condD hc h1 h2
theorem zCN {p : Prop} {_ : Decidable p} (hc : s.ev cnd = .d (.val (.bool (!decide p)))) (h1 : ¬ p → AWp P c x Q s) (h2 : p → AWp P c y Q s) : AWp P c (.cond cnd x y) Q s := awp_condN hc h1 h2
end
section
variable {next : AS → Prop} {Q : Exit → AS → Prop} {t : AS} {id id' : Nat}
theorem zX (hne : Nat.beq id' id = false) (h : Q (.exit id') t) : ABlock id Q (.exit id') t := q_blkX hne h
end
section
variable {P : Program} {ops : Array Oper} {l : List Oper} {F : Nat → AV} {M : Nat → Option Blk} {K : List Rec → AS → Prop} {op : Op} {ty : TypeId} {ps : String} {af : Array Edge} {gd : Option (Nat × Bool)}
theorem zE {s : AS} (h : K [] s) : RunT P ops [] s K := r_nil h
theorem zP {d : Nat} {rd : List Nat} {r : AV} (hd : ∀ gd, Does P ⟨some d, op, ty, ps, af, gd⟩ ⟨F, M⟩ rd (.put r)) (h : RunT P ops l ⟨upd F d r, M⟩ fun rs => K (⟨.put r, rd, tchOf ⟨some d, op, ty, ps, af, none⟩ ⟨F, M⟩⟩ :: rs)) : RunT P ops (⟨some d, op, ty, ps, af, none⟩ :: l) ⟨F, M⟩ K := r_put hd h
theorem zN {d : Nat} {rd : List Nat} {blk : Blk} {r : AV} (hd : ∀ gd, Does P ⟨some d, op, ty, ps, af, gd⟩ ⟨F, M⟩ rd (.newBlk blk r)) (h : RunT P ops l ⟨upd (fun i => (F i).kill d) d r, upd M d (some blk)⟩ fun rs => K (⟨.newBlk blk r, rd, tchOf ⟨some d, op, ty, ps, af, none⟩ ⟨F, M⟩⟩ :: rs)) : RunT P ops (⟨some d, op, ty, ps, af, none⟩ :: l) ⟨F, M⟩ K := r_new hd h
theorem zA {d nm : Nat} {rd : List Nat} {blk : Blk} {r : AV} (hd : ∀ gd, Does P ⟨some d, op, ty, ps, af, gd⟩ ⟨F, M⟩ rd (.app nm blk r)) (h : RunT P ops l ⟨upd (fun i => ((F i).kill nm).kill d) d r, upd (upd M nm none) d (some blk)⟩ fun rs => K (⟨.app nm blk r, rd, tchOf ⟨some d, op, ty, ps, af, none⟩ ⟨F, M⟩⟩ :: rs)) : RunT P ops (⟨some d, op, ty, ps, af, none⟩ :: l) ⟨F, M⟩ K := r_app hd h
theorem zV {d nm : Nat} {rd : List Nat} {r : AV} (hd : ∀ gd, Does P ⟨some d, op, ty, ps, af, gd⟩ ⟨F, M⟩ rd (.appV nm r)) (h : RunT P ops l ⟨upd (fun i => ((F i).kill nm).kill d) d r, upd (upd M nm none) d none⟩ fun rs => K (⟨.appV nm r, rd, tchOf ⟨some d, op, ty, ps, af, none⟩ ⟨F, M⟩⟩ :: rs)) : RunT P ops (⟨some d, op, ty, ps, af, none⟩ :: l) ⟨F, M⟩ K := r_appV hd h
theorem zS {nm : Nat} {rd : List Nat} {blk : Blk} (hd : ∀ gd, Does P ⟨none, op, ty, ps, af, gd⟩ ⟨F, M⟩ rd (.setBlk nm blk)) (h : RunT P ops l ⟨F, upd M nm (some blk)⟩ fun rs => K (⟨.setBlk nm blk, rd, tchOf ⟨none, op, ty, ps, af, none⟩ ⟨F, M⟩⟩ :: rs)) : RunT P ops (⟨none, op, ty, ps, af, none⟩ :: l) ⟨F, M⟩ K := r_set hd h
theorem zU {d j t : Nat} {b : Bool} (hg : gtmp ops ⟨some d, op, ty, ps, af, some (j, b)⟩ = some (t, b)) (hb : (AS.mk F M).ev (.tmp t) = .d (.val undef)) (h : RunT P ops l ⟨upd F d (.d (.val undef)), M⟩ fun rs => K (⟨.put (.d (.val undef)), [], tchOf ⟨some d, op, ty, ps, af, some (j, b)⟩ ⟨F, M⟩⟩ :: rs)) : RunT P ops (⟨some d, op, ty, ps, af, some (j, b)⟩ :: l) ⟨F, M⟩ K := r_noU hg hb h
theorem zD {dst : Option Tmp} {j t : Nat} {b : Bool} {p : Prop} {_ : Decidable p} (hg : gtmp ops ⟨dst, op, ty, ps, af, some (j, b)⟩ = some (t, b)) (hb : (AS.mk F M).ev (.tmp t) = .d (.val (.bool (decide p)))) (h1 : p → RunT P ops (⟨dst, op, ty, ps, af, some (j, b)⟩ :: l) ⟨F, M⟩ K) (h2 : ¬ p → RunT P ops (⟨dst, op, ty, ps, af, some (j, b)⟩ :: l) ⟨F, M⟩ K) : RunT P ops (⟨dst, op, ty, ps, af, some (j, b)⟩ :: l) ⟨F, M⟩ K := r_splitD hg hb h1 h2
theorem zB {dst : Option Tmp} {j t : Nat} {b q : Bool} (hg : gtmp ops ⟨dst, op, ty, ps, af, some (j, b)⟩ = some (t, b)) (hb : (AS.mk F M).ev (.tmp t) = .d (.val (.bool q))) (h1 : q = true → RunT P ops (⟨dst, op, ty, ps, af, some (j, b)⟩ :: l) ⟨F, M⟩ K) (h2 : q = false → RunT P ops (⟨dst, op, ty, ps, af, some (j, b)⟩ :: l) ⟨F, M⟩ K) : RunT P ops (⟨dst, op, ty, ps, af, some (j, b)⟩ :: l) ⟨F, M⟩ K := r_split hg hb h1 h2
end
theorem wp_gd {P : Program} {dst : Option Tmp} {op : Op} {ty : TypeId} {ps : String} {af : Array Edge} {g : Option (Nat × Bool)} {a : Act} {w : World} {K : Act → World → Prop} {Q : Exit → Act → World → Prop} (h : Oper.wp P ⟨dst, op, ty, ps, af, none⟩ a w K Q) : Oper.wp P ⟨dst, op, ty, ps, af, g⟩ a w K Q := by
  unfold Oper.wp at h ⊢
  exact h
theorem zY {P : Program} {ops : Array Oper} {l : List Oper} {s : AS} {K : List Rec → AS → Prop} {dst : Option Tmp} {op : Op} {ty : TypeId} {ps : String} {af : Array Edge} {j t : Nat} {b q : Bool} (hg : gtmp ops ⟨dst, op, ty, ps, af, some (j, b)⟩ = some (t, b)) (hb : s.ev (.tmp t) = .d (.val (.bool q))) (hq : q = b)
    (h : RunT P ops (⟨dst, op, ty, ps, af, none⟩ :: l) s K) : RunT P ops (⟨dst, op, ty, ps, af, some (j, b)⟩ :: l) s K := by
  obtain ⟨e, rd, hs, hr⟩ := h
  cases hs with
  | plain hg0 hd => exact ⟨e, rd, .yes hg (by rw [hb, hq]) ⟨fun c s' φ a w K Q h1 h2 h3 h4 h5 h6 => wp_gd (hd.run c s' φ a w K Q h1 h2 h3 h4 h5 h6)⟩, hr⟩
  | yes hg0 _ _ => cases hg0
  | no hg0 _ _ => cases hg0
  | nor hg0 _ => cases hg0
theorem zG {P : Program} {ops : Array Oper} {l : List Oper} {F : Nat → AV} {M : Nat → Option Blk} {K : List Rec → AS → Prop} {op : Op} {ty : TypeId} {ps : String} {af : Array Edge} {d j t : Nat} {b q : Bool} (hg : gtmp ops ⟨some d, op, ty, ps, af, some (j, b)⟩ = some (t, b)) (hb : (AS.mk F M).ev (.tmp t) = .d (.val (.bool q))) (hq : q = !b)
    (h : RunT P ops l ⟨upd F d (.d (.val undef)), M⟩ fun rs => K (⟨.put (.d (.val undef)), [], tchOf ⟨some d, op, ty, ps, af, some (j, b)⟩ ⟨F, M⟩⟩ :: rs)) : RunT P ops (⟨some d, op, ty, ps, af, some (j, b)⟩ :: l) ⟨F, M⟩ K := by
  cases b
  · exact r_noF hg hb hq h
  · exact r_noT hg hb hq h
theorem zK {P : Program} {c : Fam} {Q : Exit → AS → Prop} {s : AS} {cnd : Operand} {x y : Code} {q b : Bool} (hc : s.ev cnd = .d (.val (.bool q))) (hq : q = b) (h : AWp P c (bif b then x else y) Q s) : AWp P c (.cond cnd x y) Q s := by
  cases b
  · exact awp_condF hc hq h
  · exact awp_condT hc hq h
inductive Mv : Prop → Prop → Prop
  | seq {P : Program} {c : Fam} {Q : Exit → AS → Prop} {s : AS} {x y : Code} : Mv (AWp P c x (ASeq (AWp P c y Q) Q) s) (AWp P c (.seq x y) Q s)
  | blk {P : Program} {c : Fam} {Q : Exit → AS → Prop} {s : AS} {id : Nat} {x : Code} : Mv (AWp P c x (ABlock id Q) s) (AWp P c (.block id x) Q s)
  | skip {P : Program} {c : Fam} {Q : Exit → AS → Prop} {s : AS} : Mv (Q .normal s) (AWp P c .skip Q s)
  | ret {P : Program} {c : Fam} {Q : Exit → AS → Prop} {s : AS} : Mv (Q .ret s) (AWp P c .ret Q s)
  | exit {P : Program} {c : Fam} {Q : Exit → AS → Prop} {s : AS} {id : Nat} : Mv (Q (.exit id) s) (AWp P c (.exit id) Q s)
  | condT {P : Program} {c : Fam} {Q : Exit → AS → Prop} {s : AS} {x y : Code} : Mv (AWp P c x Q s) (AWp P c (bif true then x else y) Q s)
  | condF {P : Program} {c : Fam} {Q : Exit → AS → Prop} {s : AS} {x y : Code} : Mv (AWp P c y Q s) (AWp P c (bif false then x else y) Q s)
  | qseq {next : AS → Prop} {Q : Exit → AS → Prop} {t : AS} : Mv (next t) (ASeq next Q .normal t)
  | qseqE {next : AS → Prop} {Q : Exit → AS → Prop} {t : AS} {id : Nat} : Mv (Q (.exit id) t) (ASeq next Q (.exit id) t)
  | qseqR {next : AS → Prop} {Q : Exit → AS → Prop} {t : AS} : Mv (Q .ret t) (ASeq next Q .ret t)
  | qblk {Q : Exit → AS → Prop} {t : AS} {id : Nat} : Mv (Q .normal t) (ABlock id Q .normal t)
  | qblkE {Q : Exit → AS → Prop} {t : AS} {id : Nat} : Mv (Q .normal t) (ABlock id Q (.exit id) t)
  | qblkR {Q : Exit → AS → Prop} {t : AS} {id : Nat} : Mv (Q .ret t) (ABlock id Q .ret t)
theorem mv {p q : Prop} (h : Mv p q) (hp : p) : q := by
  cases h with
  | seq => exact awp_seq hp
  | blk => exact awp_block hp
  | skip => exact awp_skip hp
  | ret => exact awp_ret hp
  | exit => exact awp_exit hp
  | condT => exact hp
  | condF => exact hp
  | qseq => exact q_seq hp
  | qseqE => exact q_seqE hp
  | qseqR => exact q_seqR hp
  | qblk => exact q_blk hp
  | qblkE => exact q_blkE hp
  | qblkR => exact q_blkR hp
end Go.Proofs.Ytgjhikjnlcbmkaa
