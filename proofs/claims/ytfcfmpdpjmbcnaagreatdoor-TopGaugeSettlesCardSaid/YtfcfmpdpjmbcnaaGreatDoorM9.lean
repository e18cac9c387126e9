/- Merged: XAm XAn XAp XAo XAq XAr XAs XAt XCz. -/
import Derived.Test.YtfcfmpdpjmbcnaaGreatDoorMl
import Derived.KernelRfl
import Derived.ProofKit
import Derived.Deep.Slices
import Derived.Carry
import Derived.OpenShut
import Derived.SizedLaws
import Derived.Test.YtfcfmpdpjmbcnaaGreatDoorRows
set_option linter.unusedVariables false
set_option linter.unusedSimpArgs false
/- Slices that a loop has made, given up as values. Nothing of the program. -/
namespace Go.Proofs.YtfcfmpdpjmbcnaaGreatDoor
open Go.RowKit

abbrev nilV : DV := .val (.slice none 0 0)

section
variable {P : Program} {c : Fam} {Q : Exit → AS → Prop} {s : AS}

theorem rep_nilS {ok : Nat → Prop} {w : World} {v : Value} (h : nilV.rep ok w v) : (DV.slice 0 []).rep ok w v := by
  rw [rep_val.1 h, DV.rep]
  exact ⟨none, 0, rfl, Nat.le_refl _, Nat.zero_le _, fun h => absurd rfl h⟩
theorem R.nilS {c : Ctx} {φ : Nat → Nat × Nat} {a : Act} {w : World} (h : R c s φ a w) {i : Nat} (hi : s.fr i = .d nilV) : R c ⟨upd s.fr i (.d (.slice 0 [])), s.mem⟩ φ a w :=
  ⟨h.below, h.defers, h.size, h.ntv, fun j hj => by
    show AV.rep _ φ w (upd s.fr i (.d (.slice 0 [])) j) _
    by_cases e : j = i
    · subst e
      rw [upd_same]
      have := h.fr j hj
      rw [hi] at this
      exact rep_nilS this
    · rw [upd_ne _ _ e]; exact h.fr j hj, h.own, h.mem, h.inj, fun k hk => h.gh k (by
      have hk : upd s.fr i (.d (.slice 0 [])) VG = .d (.val (.int .i64 k)) := hk
      by_cases e : VG = i
      · rw [e, upd_same] at hk; cases hk
      · rwa [upd_ne _ _ e] at hk)⟩
theorem awp_nil {code : Code} (i : Nat) (hi : s.fr i = .d nilV) (h : AWp P c code Q ⟨upd s.fr i (.d (.slice 0 [])), s.mem⟩) : AWp P c code Q s :=
  ⟨fun φ a w ⟨c', hG, hR⟩ => h.run φ a w ⟨c', hG, hR.nilS hi⟩⟩
theorem kill_le (s : AS) (nm : Nat) : s.le ⟨fun j => (s.fr j).kill nm, upd s.mem nm none⟩ := by
  constructor
  · intro j
    show (s.fr j).kill nm = _ ∨ (s.fr j).kill nm = _
    cases s.fr j with
    | d x => exact .inr rfl
    | ptr n off => cases h : n == nm <;> simp [AV.kill, h]
    | lsl n off len sz => cases h : n == nm <;> simp [AV.kill, h]
    | dep a b f => cases h : (a == nm || b == nm) <;> simp only [AV.kill, h, cond_true, cond_false] <;> simp
  · intro n blk h
    show s.mem n = _
    have h : upd s.mem nm none n = some blk := h
    by_cases e : n = nm
    · subst e; rw [upd_same] at h; cases h
    · rwa [upd_ne _ _ e] at h
end

end Go.Proofs.YtfcfmpdpjmbcnaaGreatDoor

/- Appending nothing; functions that return a slice of their own; more comparisons with nil. Nothing of the program. -/
namespace Go.Proofs.YtfcfmpdpjmbcnaaGreatDoor
open Go.RowKit

section
variable {P : Program} {s : AS} {ty : TypeId} {ps : String} {af : Array Edge} {dst : Option Tmp} {gd : Option (Nat × Bool)} {t t' : TypeId} {x y : Operand}

theorem run_app0 {e : TypeId} {i : TypeInfo} {tys : Array TypeId} (hu : P.underlying t = some (.slice e)) (hi : P.info? e = some i) (A : Option Addr) (n cap : Nat) (hn : n ≤ cap) (B : Option Addr) (c2 : Nat) (w : World) :
    (Builtin.append_ #[t, t] ty #[.slice A n cap, .slice B 0 c2]).run P w = .ok (.slice A n cap) w := by
  cases A <;> cases B <;> simp [Builtin.append_, Sem.run_bind, run_underlying hu w, sizeOf, typeInfo, hi, Builtin.lenOf, Builtin.firstCells, hn, storeCells, loadCells, loadCellsFrom]

theorem does_app0 {e nm n sz sz' bytes : Nat} {zs : List Value} {cs : List DV} (ht : sliOf P t = some (e, sz', bytes, zs)) (hx : s.ev x = .lsl nm 0 n sz) (hy : s.ev y = .d (.slice 0 cs)) : Does P ⟨dst, .call ⟨.builtin .append, #[x, y], #[t, t]⟩, ty, ps, af, gd⟩ s [] (.put (.lsl nm 0 n sz)) :=
  does_pure fun c s' φ a w hR hop => by
    obtain ⟨i, z, hu, hi, _⟩ := sliOf_parts ht
    have h0 := ge_lsl hR (hop x (by simp [Op.operands, Call.operands])) hx
    obtain ⟨cap, e1, h1, h2, h3⟩ := h0
    have e2 := ge_d hR (hop y (by simp [Op.operands, Call.operands])) hy
    rw [DV.rep] at e2
    obtain ⟨B, c2, e2, _⟩ := e2
    refine ⟨.slice (some ⟨(φ nm).1, 0, none⟩) n cap, ?_, cap, rfl, h1, h2, h3⟩
    have hrun := run_app0 (ty := ty) (tys := #[]) hu hi (some ⟨(φ nm).1, 0, none⟩) n cap h1 B c2 w
    simp only [execOp, resolve, invoke, builtin, Sem.run_bind, Sem.run_pure, Result.andThen_ok, List.map_toArray, List.map_cons, List.map_nil, e1, e2, hrun]
theorem o_app0 {e nm n sz sz' bytes : Nat} {zs : List Value} {cs : List DV} [ht : SliI P t e sz' bytes zs] (hx : s.ev x = .lsl nm 0 n sz) (hy : s.ev y = .d (.slice 0 cs)) (gd : Option (Nat × Bool)) : Does P ⟨dst, .call ⟨.builtin .append, #[x, y], #[t, t]⟩, ty, ps, af, gd⟩ s [] (.put (.lsl nm 0 n sz)) := does_app0 ht.eq hx hy
theorem o_appN0 {e sz' bytes : Nat} {zs : List Value} {cs : List DV} [ht : SliI P t e sz' bytes zs] (hx : s.ev x = .d nilV) (hy : s.ev y = .d (.slice 0 cs)) (gd : Option (Nat × Bool)) : Does P ⟨dst, .call ⟨.builtin .append, #[x, y], #[t, t]⟩, ty, ps, af, gd⟩ s [] (.put (.d nilV)) :=
  does_pure fun c s' φ a w hR hop => by
    obtain ⟨i, z, hu, hi, _⟩ := sliOf_parts ht.eq
    have e1 := ge_val hR (hop x (by simp [Op.operands, Call.operands])) hx
    have e2 := ge_d hR (hop y (by simp [Op.operands, Call.operands])) hy
    rw [DV.rep] at e2
    obtain ⟨B, c2, e2, _⟩ := e2
    refine ⟨.slice none 0 0, ?_, (rep_val (ok := okOf c φ s') (w := w)).2 rfl⟩
    have hrun := run_app0 (ty := ty) (tys := #[]) hu hi none 0 0 (Nat.le_refl _) B c2 w
    simp only [execOp, resolve, invoke, builtin, Sem.run_bind, Sem.run_pure, Result.andThen_ok, List.map_toArray, List.map_cons, List.map_nil, e1, e2, hrun]
theorem o_nilD {e : TypeId} {n : Nat} {cs : List DV} [ht : UndI P t (.slice e)] (hx : s.ev x = .d (.slice n cs)) (hne : cs ≠ []) (hy : s.ev y = .d nilV) (gd : Option (Nat × Bool)) : Does P ⟨dst, .binOp .eql t x y t', ty, ps, af, gd⟩ s [] (.put (.d (.val (.bool false)))) :=
  does_pure fun c s' φ a w hR hop => by
    have h1 := ge_d hR (hop x (by simp [Op.operands])) hx
    have h2 := ge_val hR (hop y (by simp [Op.operands])) hy
    rw [DV.rep] at h1
    obtain ⟨A, cap, h1, _, _, h3⟩ := h1
    obtain ⟨b, o, vs, rfl, _⟩ := h3 hne
    refine ⟨.bool false, ?_, (rep_val (ok := okOf c φ s') (w := w)).2 rfl⟩
    have e1 : (eqGuard .eql t x y (.slice (some ⟨b, o, none⟩) n cap) (.slice none 0 0)).run P w = .ok () w := by unfold eqGuard; rfl
    have e2 : (binOp .eql t (.slice (some ⟨b, o, none⟩) n cap) (.slice none 0 0)).run P w = .ok (.bool false) w := by simp [binOp, run_equal_slice_nil w t e _ n cap ht.eq]
    simp only [execOp, h1, h2, Sem.run_bind, e1, e2, Sem.run_pure, Result.andThen_ok]
end

def ARetO (rs : List ResultVar) (t : TypeId) (n sz : Nat) (cs : List DV) : Exit → AS → Prop
  | .normal, s | .ret, s => ∃ i nm, rs = [.tmp i] ∧ s.ev (.tmp i) = .lsl nm 0 n sz ∧ s.mem nm = some ⟨t, cs⟩
  | _, _ => False
theorem q_retO {rs : List ResultVar} {t : TypeId} {n sz : Nat} {cs : List DV} {s : AS} {i nm : Nat} (h : rs = [.tmp i]) (h1 : s.ev (.tmp i) = .lsl nm 0 n sz) (h2 : s.mem nm = some ⟨t, cs⟩) : ARetO rs t n sz cs .ret s := ⟨i, nm, h, h1, h2⟩
theorem q_retON {rs : List ResultVar} {t : TypeId} {n sz : Nat} {cs : List DV} {s : AS} {i nm : Nat} (h : rs = [.tmp i]) (h1 : s.ev (.tmp i) = .lsl nm 0 n sz) (h2 : s.mem nm = some ⟨t, cs⟩) : ARetO rs t n sz cs .normal s := ⟨i, nm, h, h1, h2⟩

theorem aco_body {P : Program} {f : FuncId} {fn : Func} {code : Code} {args : List DV} {rt : TypeId} {n sz : Nat} {cs : List DV} (hf : P.funcs[f]? = some fn) (hb : fn.body = some code) (hn : (Nat.ble args.length fn.ntmps && Nat.ble fn.ntmps VG) = true) (h : ∀ w0 ok, AWp P (ctx0 w0 ok fn.ntmps) code (ARetO fn.results.toList rt n sz cs) (entry args)) : ACo P f args rt n sz cs := by
  intro ok w vs hr hgl
  refine callsIn_wide.1 (callsIn_of_wp_marks (F := Fence.wide) (n := 0) hf hb trivial ?_)
  have hR : R (kx w ok fn.ntmps) (entry args) (fun _ => (0, 0)) { tmps := vs.toArray ++ Array.replicate (fn.ntmps - vs.toArray.size) undef, defers := [] } w := entry_R rfl hn (fun _ _ _ h => h) hr (fun _ => rfl) hgl.is (fun _ _ h => h)
  refine wpIn_mono ((h w ok).run _ _ _ (RF.one.2 hR)) fun e a w' ⟨t, φ, hq, hR'⟩ => ?_
  replace hR' := RF.one.1 hR'
  have fin : (∃ i nm, fn.results.toList = [.tmp i] ∧ t.ev (.tmp i) = .lsl nm 0 n sz ∧ t.mem nm = some ⟨rt, cs⟩) → LeavesInM Fence.wide 0 P fn a.tmps (fun e w' => ∃ g cap, e = .returned (.slice (some ⟨g, 0, none⟩) n cap) ∧ w.heap.size ≤ g ∧ n ≤ cap ∧ cap ≤ maxLen ∧
      BlkAt (fun b => ok b ∨ (w.heap.size ≤ b ∧ b ≠ g)) w' (g, cap * sz) ⟨rt, cs⟩ ∧ Below w.heap.size w w') a.defers .returning w' := by
    rintro ⟨i, nm, hres, hfr, hmem⟩
    refine hR'.leaves fun w2 hR2 => ?_
    have h1 := hR2.ev (.tmp i)
    rw [hfr] at h1
    obtain ⟨cap, h1, h2, h3, h4⟩ := h1
    have h1 : a.tmps.getD i undef = .slice (some ⟨(φ nm).1, 0, none⟩) n cap := h1
    refine ⟨_, ?_, (φ nm).1, cap, rfl, (hR2.own nm _ hmem).resolve_right (fun h => h), h2, h3, ?_, hR2.below.all fun _ h => h⟩
    · have hra : fn.results = #[.tmp i] := by rw [← Array.toArray_toList (xs := fn.results), hres]
      have hm1 : ((#[ResultVar.tmp i] : Array ResultVar).mapM (m := Sem) fun | .tmp t => pure (a.tmps.getD t undef) | .cell x t => do loadVar t (← asAddr (a.tmps.getD x undef))).run P w2 = .ok #[a.tmps.getD i undef] w2 := by
        rw [List.mapM_toArray, Sem.run_map]
        simp
      unfold results
      rw [hra, Sem.run_bind]
      refine (congrArg (fun r => Result.andThen r _) hm1).trans ?_
      simp [h1]
    · have hb := hR2.mem nm _ hmem
      rw [show ((φ nm).1, cap * sz) = φ nm by rw [show cap * sz = (φ nm).2 by omega]]
      obtain ⟨us, ex, b1, b2, b3, b4⟩ := hb
      refine ⟨us, ex, b1, b2, b3, DV.repL_keeps (Keeps.wide fun b hb _ => ?_) _ _ b4⟩
      rcases hb with hb | hb
      · exact .inl hb.2.1
      · exact .inr ⟨hb.1.resolve_right (fun h => h), fun e => hb.2 nm (by rw [hmem]; simp) e.symm⟩
  cases e with
  | normal => exact fin hq
  | ret => exact fin hq
  | exit id => exact hq.elim
  | goto l => exact hq.elim
  | panic ch => exact hq.elim
  | outgrown => exact hq.elim

end Go.Proofs.YtfcfmpdpjmbcnaaGreatDoor

/- Slices that a loop makes, by their lists; function values with captures. Nothing of the program. -/
namespace Go.Proofs.YtfcfmpdpjmbcnaaGreatDoor
open Go.RowKit

def ownL (nm : Nat) : List Int → AV
  | [] => .d nilV
  | x :: l => .lsl nm 0 (x :: l).length 1
def ownLM (nm : Nat) (t : TypeId) : List Int → List (Nat × Blk)
  | [] => []
  | x :: l => [(nm, ⟨t, ivs (x :: l)⟩)]
theorem ownL_snoc (nm : Nat) (x : Int) (l : List Int) (v : Int) : AV.lsl nm 0 ((x :: l).length + 1) 1 = ownL nm (x :: (l ++ [v])) := by simp [ownL]
theorem blkL_snoc (t : TypeId) (x : Int) (l : List Int) (v : Int) : some (Blk.mk t (ivs (x :: l) ++ [I v])) = some ⟨t, ivs (x :: (l ++ [v]))⟩ := by simp [ivs]
theorem ivs_len2 (l : List Int) : (ivs l).length = l.length := by simp [ivs]

section
variable {P : Program} {c : Fam} {Q : Exit → AS → Prop} {s : AS}
theorem awp_ownL {code : Code} (i nm : Nat) {t : TypeId} (l : List Int) (hi : s.fr i = ownL nm l) (hm : ∀ x k, l = x :: k → s.mem nm = some ⟨t, ivs l⟩)
    (h : AWp P c code Q ⟨upd (fun j => (s.fr j).kill nm) i (.d (isl l)), upd s.mem nm none⟩) : AWp P c code Q s := by
  cases l with
  | nil =>
    refine awp_weaken (kill_le s nm) ?_
    refine awp_nil i ?_ h
    show (s.fr i).kill nm = _
    rw [hi]; rfl
  | cons x k =>
    have hm := hm x k rfl
    refine awp_freeze nm hm (awp_weaken (s' := ⟨upd (fun j => (s.fr j).kill nm) i (.d (isl (x :: k))), upd s.mem nm none⟩) ⟨fun j => ?_, fun n blk hb => hb⟩ h)
    show upd (fun j => (s.fr j).kill nm) i (.d (isl (x :: k))) j = .d .any ∨ upd (fun j => (s.fr j).kill nm) i (.d (isl (x :: k))) j = (s.fr j).frz nm (ivs (x :: k))
    by_cases e : j = i
    · subst e
      refine .inr ?_
      rw [upd_same, hi]
      show _ = AV.frz nm (ivs (x :: k)) (.lsl nm 0 (x :: k).length 1)
      simp only [AV.frz, BEq.rfl, cond_true]
      rw [List.drop_zero, Nat.mul_one, List.take_of_length_le (Nat.le_of_eq (ivs_len2 _))]
    · rw [upd_ne _ _ e]
      cases s.fr j with
      | d x => exact .inr rfl
      | ptr n off => cases h : n == nm <;> simp [AV.kill, AV.frz, h]
      | lsl n off len sz => cases h : n == nm <;> simp [AV.kill, AV.frz, h]
      | dep a b f => cases h : (a == nm || b == nm) <;> simp only [AV.kill, AV.frz, h, cond_true, cond_false] <;> simp
end

end Go.Proofs.YtfcfmpdpjmbcnaaGreatDoor

/- The tables of rules, as default arguments: each rule of a table is tried in turn. Nothing of the program. -/
namespace Go.Proofs.YtfcfmpdpjmbcnaaGreatDoor
open Go.RowKit

section
variable {P : Program} {s : AS} {op : Op} {ty : TypeId} {ps : String} {af : Array Edge} {dst : Option Tmp} {rd : List Nat}
theorem tt {q : Bool} (h : q = true := by (first | assumption | exact decide_eq_true (by first | assumption | omega) | exact not_t (by first | assumption | exact decide_eq_false (by first | assumption | omega)) | exact rfl)) : q = true := h
theorem ff {q : Bool} (h : q = false := by (first | assumption | exact decide_eq_false (by first | assumption | omega) | exact not_f (by first | assumption | exact decide_eq_true (by first | assumption | omega)) | exact rfl)) : q = false := h
theorem tf {q b : Bool} (h : q = b := by first | exact tt | exact ff) : q = b := h
theorem kr {a b : Bool} (h : a = b := by kernel_rfl) : a = b := h
theorem dp {r : AV} (h : ∀ gd, Does P ⟨dst, op, ty, ps, af, gd⟩ s rd (.put r) := by
    first
    | exact o_move (r := .d (.val _)) rfl
    | exact o_assign (r := .d (.val _)) rfl
    | exact o_move (r := .d _) rfl
    | exact o_assign (r := .d _) rfl
    | exact o_move (r := .ptr _ _) rfl
    | exact o_assign (r := .ptr _ _) rfl
    | exact o_move (r := .lsl _ _ _ _) rfl
    | exact o_assign (r := .lsl _ _ _ _) rfl
    | exact o_loadI rfl (by omega)
    | exact o_loadLI rfl rfl (by omega)
    | exact o_load1 rfl rfl rfl
    | exact o_loadR1 rfl rfl
    | exact o_loadA rfl rfl (by solve | exact Nat.le_of_ble_eq_true rfl | (show _ ≤ _; simp; done)) rfl
    | exact o_loadRA rfl (by solve | exact Nat.le_of_ble_eq_true rfl | (show _ ≤ _; simp; done)) rfl
    | exact o_field rfl rfl
    | exact o_fieldR rfl
    | exact o_add rfl rfl (wr (by omega))
    | exact o_sub rfl rfl (wr (by omega))
    | exact o_mul rfl rfl (wr (by omega))
    | exact o_lss rfl rfl
    | exact o_leq rfl rfl
    | exact o_gtr rfl rfl
    | exact o_geq rfl rfl
    | exact o_eql rfl rfl
    | exact o_neq rfl rfl
    | exact o_quoE rfl rfl (by omega) (by omega) (by omega)
    | exact o_remE rfl rfl (by omega) (by omega)
    | exact o_quoT rfl rfl (by omega) (by omega) (by omega)
    | exact o_quo rfl rfl (by omega) (wr (by omega))
    | exact o_rem rfl rfl (by omega) rfl
    | exact o_indexI rfl rfl (by omega) (by first | rfl | omega)
    | exact o_indexI' rfl rfl (by omega) (by omega) (by first | rfl | omega)
    | exact o_indexP rfl rfl (by omega) (by omega) rfl
    | exact o_indexL rfl rfl (by omega) (by omega) rfl
    | exact o_indexS rfl rfl (by omega) (by omega) (by assumption)
    | exact o_indexR rfl rfl (by omega) (by omega)
    | exact o_extract rfl rfl
    | exact o_eqlA rfl rfl rfl rfl rfl rfl
    | exact o_neqA rfl rfl rfl rfl rfl rfl
    | exact o_eqlB rfl rfl
    | exact o_neqB rfl rfl
    | exact o_index rfl rfl (by omega) (by omega) rfl
    | exact o_indexG rfl rfl (by omega) (by omega) (by solve | exact Nat.le_of_ble_eq_true rfl | (show _ ≤ _; simp; done)) rfl
    | exact o_fieldV rfl rfl
    | exact o_fieldVA rfl (by solve | exact Nat.le_of_ble_eq_true rfl | (show _ ≤ _; simp; done)) rfl
    | exact o_nilS rfl rfl
    | exact o_nilD rfl (by assumption) rfl
    | exact o_app0 rfl rfl
    | exact o_appN0 rfl rfl
    | exact o_nilL rfl rfl
    | exact o_makeFunc rfl
    | exact o_sliceHI rfl rfl (by omega)
    | exact o_sliceHI' rfl rfl (by omega) (by omega)
    | exact o_sliceLHI rfl rfl rfl (by omega) (by omega)
    | exact o_sliceLI rfl rfl (by omega)
    | exact o_sliceH rfl rfl (by omega)
    | exact o_sliceLH rfl rfl rfl (by omega) (by omega)
    | exact o_sliceL rfl rfl (by omega)
    | exact o_pickT (r := .d (.val _)) rfl (by (first | assumption | exact decide_eq_true (by first | assumption | omega) | exact not_t (by first | assumption | exact decide_eq_false (by first | assumption | omega)) | exact rfl)) rfl
    | exact o_pickF (r := .d (.val _)) rfl (by (first | assumption | exact decide_eq_false (by first | assumption | omega) | exact not_f (by first | assumption | exact decide_eq_true (by first | assumption | omega)) | exact rfl)) rfl
    | exact o_not rfl
    | exact o_neg rfl (wr (by omega))
    | exact o_buildS rfl rfl
    | exact o_buildA rfl rfl
    | exact o_lenS rfl
    | exact o_lenL rfl
    | exact o_lenN rfl
    | exact o_lenT rfl
    | exact o_max rfl rfl
    | exact o_min rfl rfl
    | exact o_conv rfl (wr (by omega))) : ∀ gd, Does P ⟨dst, op, ty, ps, af, gd⟩ s rd (.put r) := h
theorem dn {b : Blk} {r : AV} (h : ∀ gd, Does P ⟨dst, op, ty, ps, af, gd⟩ s rd (.newBlk b r) := by
    first
    | exact o_appN rfl (.own rfl rfl) (by solve | rfl | simp) (by omega) (by omega) (by omega)
    | exact o_appN rfl (.sl rfl) (by solve | rfl | simp) (by omega) (by omega) (by omega)
    | exact o_alloc rfl
    | exact o_box rfl rfl
    | exact o_buildSl rfl (by decide) rfl) : ∀ gd, Does P ⟨dst, op, ty, ps, af, gd⟩ s rd (.newBlk b r) := h
theorem ds {n : Nat} {b : Blk} (h : ∀ gd, Does P ⟨dst, op, ty, ps, af, gd⟩ s rd (.setBlk n b) := by
    first
    | exact o_store rfl rfl rfl rfl (by rfl) (by solve | exact Nat.le_of_ble_eq_true rfl | (show _ ≤ _; simp; done)) rfl) : ∀ gd, Does P ⟨dst, op, ty, ps, af, gd⟩ s rd (.setBlk n b) := h
theorem da {n : Nat} {b : Blk} {r : AV} (h : ∀ gd, Does P ⟨dst, op, ty, ps, af, gd⟩ s rd (.app n b r) := by
    first
    | ((apply o_app); (case hx => exact rfl); (case hm => exact rfl); (case hy => exact .own rfl rfl); (case hty => exact rfl); (case hl => exact (by solve | rfl | exact (ivs_len _ _).trans (Nat.mul_one _).symm | simp [ivs])); (case hcl => solve | rfl | simp); (case hpos => omega); (case hb => omega); (case hb2 => omega); (case hnew => exact rfl))
    | ((apply o_app); (case hx => exact rfl); (case hm => exact rfl); (case hy => exact .sl rfl); (case hty => exact rfl); (case hl => exact (by solve | rfl | exact (ivs_len _ _).trans (Nat.mul_one _).symm | simp [ivs])); (case hcl => solve | rfl | simp); (case hpos => omega); (case hb => omega); (case hb2 => omega); (case hnew => exact rfl))) : ∀ gd, Does P ⟨dst, op, ty, ps, af, gd⟩ s rd (.app n b r) := h
theorem oc {f : FuncId} {args : Array Operand} {ats : Array TypeId} {dvs : List DV} {r : DV} [he : EntI P f] (hv : viewL s args.toList = some (dvs, rd)) (hAC : AC P f dvs r) (hfl : rd = [] ∨ r.flat = true := by first | exact .inl rfl | exact .inr rfl) (gd : Option (Nat × Bool)) :
    Does P ⟨dst, .call ⟨.value (.func f), args, ats⟩, ty, ps, af, gd⟩ s rd (.put (.d r)) := o_call hv hAC hfl gd
theorem rl {l : List ResultVar} {ds : List DV} (h : ResL P s l ds := by
    repeat (first | exact res_nil | (apply res_tmp; (focus exact rfl)) | (apply res_own; (focus exact rfl); (focus exact rfl)) | (apply res_cell1; (focus exact rfl); (focus exact rfl); (focus exact rfl)) | (apply res_cellA; (focus exact rfl); (focus exact rfl); (focus (solve | exact Nat.le_of_ble_eq_true rfl | simp))))) : ResL P s l ds := h
end

end Go.Proofs.YtfcfmpdpjmbcnaaGreatDoor

/- A slice that is built and never written. Nothing of the program. -/
namespace Go.Proofs.YtfcfmpdpjmbcnaaGreatDoor
open Go.RowKit

section
variable {P : Program} {s : AS} {ty : TypeId} {ps : String} {af : Array Edge} {dst : Option Tmp} {gd : Option (Nat × Bool)} {t : TypeId}
theorem does_buildSlD {n e sz bytes : Nat} {parts : Array (Nat × Operand)} {zs : List Value} {ps' : List (Nat × DV)} {r : List DV} (ht : sliOf P t = some (e, sz, bytes, zs)) (hp : partsOf s parts.toList = some ps') (hn : n * sz ≤ 16777216)
    (hr : afill (fun i => some (i * sz, sz)) ((zeros zs (n * sz)).map DV.val) ps' = some r) : Does P ⟨dst, .buildSlice t n parts, ty, ps, af, gd⟩ s [] (.put (.d (.slice n r))) :=
  ⟨fun c s' φ a w K Q hR hop _ hd _ hK => by
    obtain ⟨i, z, hu, hi, hz, hsz, _, hzc, hzs, hpos, ho⟩ := sliOf_parts ht
    obtain ⟨h1, h2⟩ := partsOf_rep hR parts.toList ps' (fun p hp => hop p.2 (by simp [Op.operands]; exact ⟨p.1, by simpa using hp⟩)) hp
    have hzl : zs.length = sz := by rw [← hzc]; simpa using hzs
    have hz0 : ((Array.range (n * sz)).map fun j => z.cells[j % z.cells.size]!).toList = zeros zs (n * sz) := by
      rw [Array.toList_map, Array.toList_range]
      unfold zeros
      refine List.map_congr_left fun j _ => ?_
      have hlt : j % z.cells.size < z.cells.size := Nat.mod_lt _ (by omega)
      rw [← hzc]
      simp [hlt]
    have hzo : Ones (zeros zs (n * sz)) := by
      intro u hu2
      unfold zeros at hu2
      obtain ⟨j, _, rfl⟩ := List.mem_map.1 hu2
      have hlt : j % zs.length < zs.length := Nat.mod_lt _ (by omega)
      rw [List.getD_eq_getElem?_getD, List.getElem?_eq_getElem hlt]
      exact ho _ (List.getElem_mem hlt)
    obtain ⟨us, h3, h4, h5⟩ := fill_sim (fun i => some (i * sz, sz)) ps' _ _ ((Array.range (n * sz)).map fun j => z.cells[j % z.cells.size]!) r h1 h2 (by rw [hz0]; exact repL_vals _) (by rw [hz0]; exact hzo) hr
    have hrl := repL_length h5
    have hfs : ∀ (parts : List (Nat × Value)) (cs : Array Value) (us : Array Value), Instr.fill (fun i => some (i * sz, sz)) cs parts = some us → us.size = cs.size := by
      intro parts
      induction parts with
      | nil => intro cs us h; simp only [Instr.fill, Option.some.injEq] at h; rw [h]
      | cons p l ih =>
        intro cs us h
        obtain ⟨j, v⟩ := p
        simp only [Instr.fill] at h
        split at h
        · cases h
        · rw [ih _ _ h]
          rw [← Array.foldl_toList, Array.toList_zipIdx]
          have : ∀ (l : List (Value × Nat)) (cs : Array Value), (l.foldl (fun cs (x : Value × Nat) => cs.setIfInBounds (j * sz + x.2) x.1) cs).size = cs.size := by
            intro l
            induction l with
            | nil => intro cs; rfl
            | cons q l ih2 => intro cs; rw [List.foldl_cons, ih2]; simp
          exact this _ _
    have hsz2 : us.size = n * sz := by rw [hfs _ _ _ h3]; simp
    have hpa : (parts.map fun x => (x.1, a.eval x.2)).toList = parts.toList.map fun p => (p.1, a.eval p.2) := by simp
    unfold Oper.wp
    have hrun : (execOp a.eval ⟨dst, .buildSlice t n parts, ty, ps, af, gd⟩).run P w = .ok (.value (.slice (some ⟨w.heap.size, 0, none⟩) n n)) (w.alloc (.cells us e)) := by
      have hso : (sizeOf e).run P w = .ok sz w := by simp [sizeOf, typeInfo, hi, hsz]
      have hzv : (zeroValue e).run P w = .ok z w := by simp [zeroValue, typeInfo, hi, hz]
      have hnr : (newRow e us).run P w = .ok ⟨w.heap.size, 0, none⟩ (w.alloc (.cells us e)) := rfl
      have hng : ¬ n * sz > 2 ^ 24 := by omega
      simp only [execOp, Instr.buildSlice, Sem.run_bind, run_underlying hu w, Result.andThen_ok, hso, hng, if_false]
      by_cases h0 : n * sz = 0
      · have hus : us = #[] := by apply Array.eq_empty_of_size_eq_zero; omega
        have h30 := h3
        rw [h0] at h30
        simp only [h0, if_true, Sem.run_bind, Sem.run_pure, Result.andThen_ok, hpa]
        have : (Array.range 0).map (fun j => (#[] : Array Value)[j % (#[] : Array Value).size]!) = (Array.range 0).map (fun j => z.cells[j % z.cells.size]!) := by simp
        rw [this, h30]
        simp only [Sem.run_bind, hnr, Result.andThen_ok, Sem.run_pure]
      · simp only [h0, if_false, Sem.run_bind, hzv, Result.andThen_ok, Sem.run_pure, hpa, h3, hnr]
    rw [hrun]
    have hbel : Below w.heap.size w (w.alloc (.cells us e)) := (Below.refl _ _).alloc (Nat.le_refl _) _
    have hR' := hR.below' hbel
    refine hK φ _ _ (hR'.put hd ?_)
    show DV.rep _ _ (.slice n r) _
    rw [DV.rep]
    refine ⟨_, n, rfl, Nat.le_refl _, ?_, fun hne => ⟨w.heap.size, 0, us.toList, rfl, .inr ⟨.inl hR.below.size, fun nm hnm => ?_⟩, by simp, ?_, h4, ?_⟩⟩
    · unfold maxLen
      have : n * 1 ≤ n * sz := Nat.mul_le_mul_left _ hpos
      omega
    · have := hR.lt hnm
      omega
    · intro j u hj
      have hheap : (w.alloc (.cells us e)).heap[w.heap.size]? = some (.cells us e (0, 0)) := by
        show (w.heap.push _)[w.heap.size]? = _
        simp
      have hc := cell_of_row (w.alloc (.cells us e)) w.heap.size (0 + j) us e (0, 0) hheap
      rw [hc]
      simpa using hj
    · exact DV.repL_keeps ⟨fun b hb _ => hb, hbel.size, fun b o u _ hl hc => (hbel.cell (p := ⟨b, o, none⟩) hl).trans hc⟩ _ _ h5
  ⟩

theorem o_buildSlD {n e sz bytes : Nat} {parts : Array (Nat × Operand)} {zs : List Value} {ps' : List (Nat × DV)} {r : List DV} [ht : SliI P t e sz bytes zs] (hp : partsOf s parts.toList = some ps') (hn : n * sz ≤ 16777216)
    (hr : afill (fun i => some (i * sz, sz)) ((zeros zs (n * sz)).map DV.val) ps' = some r) (gd : Option (Nat × Bool)) : Does P ⟨dst, .buildSlice t n parts, ty, ps, af, gd⟩ s [] (.put (.d (.slice n r))) := does_buildSlD ht.eq hp hn hr
end

end Go.Proofs.YtfcfmpdpjmbcnaaGreatDoor

/- What is handed in, as values without addresses. Nothing of the program. -/
namespace Go.Proofs.YtfcfmpdpjmbcnaaGreatDoor
open Go.RowKit Go.ChangeShapes Go.WideShapes Go.ChangeAt

def ShpL (rec : TypeId → List DV → Prop) : List TypeId → List (List DV) → Prop
  | [], css => css = []
  | t :: ts, css => ∃ c cs, css = c :: cs ∧ rec t c ∧ ShpL rec ts cs
def Shp (P : Program) : Nat → TypeId → List DV → Prop
  | 0, _, _ => False
  | d + 1, t, cs =>
    match P.underlying t with
    | some .bool => ∃ b, cs = [.val (.bool b)]
    | some (.int k) => ∃ n, cs = [.val (.int k n)] ∧ (Lit.int k n).wf = true
    | some .string => ∃ s, cs = [.val (.string s)] ∧ s.size ≤ reachBytes
    | some (.slice e) => ∃ css : List (List DV), cs = [.slice css.length css.flatten] ∧ css.length * P.bytesOf e ≤ reachBytes ∧ ∀ c ∈ css, Shp P d e c
    | some (.struct fs) => ∃ css : List (List DV), cs = css.flatten ∧ ShpL (Shp P d) (fs.toList.map (·.type)) css
    | some (.array n e) => ∃ css : List (List DV), cs = css.flatten ∧ css.length = n ∧ ∀ c ∈ css, Shp P d e c
    | _ => False
def seqFs (P : Program) : List Field → Nat → Option Nat
  | [], off => some off
  | f :: fs, off => bif Nat.beq f.offset off then seqFs P fs (off + P.cellsOf f.type) else none
def plainT (P : Program) : Nat → TypeId → Bool
  | 0, _ => false
  | d + 1, t =>
    match P.underlying t with
    | some .bool | some (.int _) | some .string => true
    | some (.slice e) => plainT P d e && Nat.blt 0 (P.cellsOf e)
    | some (.struct fs) => fs.toList.all (fun f => plainT P d f.type) && (seqFs P fs.toList 0 == some (P.cellsOf t))
    | some (.array n e) => plainT P d e && Nat.beq (n * P.cellsOf e) (P.cellsOf t)
    | _ => false

section
variable {P : Program} {H : Type} {enc : TypeId × Value → H} {w : World} {base : Nat} {sp : Nat → Bool} {held : Bool}

def Fits (w : World) (Q : List DV → Prop) (vs : List Value) : Prop := ∃ cs, DV.repL (fun _ => True) w cs vs ∧ Ones vs ∧ Q cs
theorem ones_append {l1 l2 : List Value} (h1 : Ones l1) (h2 : Ones l2) : Ones (l1 ++ l2) := fun u hu => (List.mem_append.1 hu).elim (h1 u) (h2 u)
theorem flat_rep {Q : List DV → Prop} : ∀ (vss : List (List Value)), (∀ vs ∈ vss, Fits w Q vs) → ∃ css : List (List DV), css.length = vss.length ∧ (∀ c ∈ css, Q c) ∧ DV.repL (fun _ => True) w css.flatten vss.flatten ∧ Ones vss.flatten
  | [], _ => ⟨[], rfl, by simp, by simp [repL_nil], fun u hu => by simp at hu⟩
  | vs :: vss, h => by
    obtain ⟨cs, h1, h2, h3⟩ := h vs List.mem_cons_self
    obtain ⟨css, i1, i2, i3, i4⟩ := flat_rep vss fun v hv => h v (List.mem_cons_of_mem _ hv)
    refine ⟨cs :: css, by simp [i1], fun c hc => ?_, ?_, ?_⟩
    · rcases List.mem_cons.1 hc with rfl | hc
      · exact h3
      · exact i2 c hc
    · rw [List.flatten_cons, List.flatten_cons]; exact repL_append h1 i3
    · rw [List.flatten_cons]; exact ones_append h2 i4
theorem fields_rep {Q : TypeId → List DV → Prop} : ∀ (fs : List Field) (off : Nat) (vs : List Value), seqFs P fs off = some vs.length → (∀ f ∈ fs, Fits w (Q f.type) ((vs.drop f.offset).take (P.cellsOf f.type))) →
    ∃ css : List (List DV), ShpL Q (fs.map (·.type)) css ∧ DV.repL (fun _ => True) w css.flatten (vs.drop off) ∧ Ones (vs.drop off)
  | [], off, vs, h, _ => by
    simp only [seqFs, Option.some.injEq] at h
    subst h
    exact ⟨[], rfl, by simp [repL_nil], fun u hu => by simp at hu⟩
  | f :: fs, off, vs, h, hf => by
    simp only [seqFs] at h
    cases hb : Nat.beq f.offset off
    · rw [hb] at h; cases h
    · rw [hb] at h
      have hb := Nat.eq_of_beq_eq_true hb
      obtain ⟨css, i1, i2, i3⟩ := fields_rep fs _ vs h fun g hg => hf g (List.mem_cons_of_mem _ hg)
      obtain ⟨cs, h1, h2, h3⟩ := hf f List.mem_cons_self
      rw [hb] at h1 h2
      have e : vs.drop off = (vs.drop off).take (P.cellsOf f.type) ++ vs.drop (off + P.cellsOf f.type) := by
        rw [← List.drop_drop, List.take_append_drop]
      refine ⟨cs :: css, ⟨cs, css, rfl, h3, i1⟩, ?_, ?_⟩
      · rw [e, List.flatten_cons]; exact repL_append h1 i2
      · rw [e]; exact ones_append h2 i3
theorem chunks_flat {c : Nat} {vs : List Value} : ∀ (r j : Nat), (j + r) * c = vs.length → ((List.range' j r).map fun i => (vs.drop (i * c)).take c).flatten = vs.drop (j * c)
  | 0, j, h => by
    rw [Nat.add_zero] at h
    simp [h]
  | r + 1, j, h => by
    rw [List.range'_succ, List.map_cons, List.flatten_cons, chunks_flat r (j + 1) (by rw [← h]; congr 1; omega), Nat.succ_mul, ← List.drop_drop, List.take_append_drop]
theorem cellsAt_append {b o : Nat} {l1 l2 : List Value} (h1 : CellsAt w b o l1) (h2 : CellsAt w b (o + l1.length) l2) : CellsAt w b o (l1 ++ l2) := by
  intro j u hj
  rcases Nat.lt_or_ge j l1.length with h | h
  · rw [List.getElem?_append_left h] at hj; exact h1 j u hj
  · rw [List.getElem?_append_right h] at hj
    have := h2 _ u hj
    rwa [Nat.add_assoc, Nat.add_sub_cancel' h] at this
theorem cellsAt_flat {b o c : Nat} {g : Nat → List Value} : ∀ (r j : Nat), (∀ i, j ≤ i → i < j + r → (g i).length = c ∧ CellsAt w b (o + i * c) (g i)) → CellsAt w b (o + j * c) (((List.range' j r).map g).flatten)
  | 0, j, _ => by intro k u hk; simp at hk
  | r + 1, j, h => by
    rw [List.range'_succ, List.map_cons, List.flatten_cons]
    obtain ⟨h1, h2⟩ := h j (Nat.le_refl _) (by omega)
    refine cellsAt_append h2 ?_
    have := cellsAt_flat (o := o) r (j + 1) fun i hi hi2 => h i (by omega) (by omega)
    rw [h1, Nat.add_assoc, ← Nat.succ_mul]
    exact this
theorem cell_spot {b o s : Nat} : w.cell? ⟨b, o, some s⟩ = none := by
  unfold World.cell?
  split <;> simp

theorem weights_all {e : TypeId} {n : Nat} : ∀ {l : List (DataW H)} {x : DataW H}, x ∈ l → n ∈ x.weights P e → n ∈ DataW.weightsAll P e l
  | y :: l, x, hx, hn => by
    simp only [DataW.weightsAll, List.mem_append]
    rcases List.mem_cons.1 hx with rfl | hx
    · exact .inl hn
    · exact .inr (weights_all hx hn)

theorem trod_shp : ∀ (d : Nat) (t : TypeId) (vs : List Value) (fuel : Nat) (x : DataW H × List MemPlace), plainT P d t = true → DataW.trod enc P w base sp held fuel t vs = some x → (∀ n ∈ x.1.weights P t, n ≤ reachBytes) → Fits w (Shp P d t) vs
  | 0, _, _, _, _, h, _, _ => by simp [plainT] at h
  | d + 1, t, vs, fuel, x, h, hx, hwt => by
    have ih := trod_shp d
    unfold plainT at h
    unfold Fits Shp
    split at h
    · rename_i hu
      obtain ⟨b, rfl, _⟩ := DataW.trod_bool hu hx
      exact ⟨[.val (.bool b)], repL_vals [.bool b], fun u hu => by simp at hu; subst hu; rfl, b, rfl⟩
    · rename_i k hu
      obtain ⟨n, rfl, _, hw⟩ := DataW.trod_int hu hx
      exact ⟨[.val (.int k n)], repL_vals [.int k n], fun u hu => by simp at hu; subst hu; rfl, n, rfl, hw⟩
    · rename_i hu
      obtain ⟨s, rfl, rfl, hs⟩ := DataW.trod_string hu hx
      have hs : s.size ≤ reachBytes := hwt _ (by simp [DataW.weights])
      exact ⟨[.val (.string s)], repL_vals [.string s], fun u hu => by simp at hu; subst hu; rfl, s, rfl, hs⟩
    · rename_i e hu
      simp only [Bool.and_eq_true] at h
      obtain ⟨h1, h2⟩ := h
      have h2 : 0 < P.cellsOf e := Nat.le_of_ble_eq_true h2
      rcases Deep.open_slice hu hx with ⟨rfl, _⟩ | ⟨a, len, cap, m, n, D, Pl, rfl, _, hlc, hcm, hm, rfl, hel⟩
      · refine ⟨[.slice 0 []], repL_cons'.2 ⟨?_, repL_nil.2 rfl⟩, fun u hu => by simp at hu; subst hu; rfl, [], rfl, by simp, by simp⟩
        rw [DV.rep]
        exact ⟨none, 0, rfl, Nat.le_refl _, Nat.zero_le _, fun h => absurd rfl h⟩
      · have hlm : len ≤ m := by rw [hm]; split <;> omega
        let g : Nat → List Value := fun i => (w.cells? base (a.add (i * P.cellsOf e)) (P.cellsOf e)).getD []
        have hg : ∀ i, i < len → w.cells? base (a.add (i * P.cellsOf e)) (P.cellsOf e) = some (g i) ∧ Fits w (Shp P d e) (g i) := fun i hi => by
          obtain ⟨cs', hc, ht⟩ := hel i (by omega)
          have : g i = cs' := by show (w.cells? base (a.add (i * P.cellsOf e)) (P.cellsOf e)).getD [] = cs'; rw [hc]; rfl
          rw [this]
          exact ⟨hc, ih e cs' _ _ h1 ht fun q hq => hwt q (by
            simp only [DataW.weights, hu]
            exact List.mem_cons_of_mem _ (List.mem_append.2 (.inl (weights_all (List.mem_map.2 ⟨i, List.mem_range.2 hi, rfl⟩) hq))))⟩
        obtain ⟨css, i1, i2, i3, i4⟩ := flat_rep (w := w) (Q := Shp P d e) ((List.range' 0 len).map g) fun vs hvs => by
          obtain ⟨i, hi, rfl⟩ := List.mem_map.1 hvs
          rw [List.mem_range'_1] at hi
          exact (hg i (by omega)).2
        have hcl : css.length = len := by rw [i1]; simp
        have hby : css.length * P.bytesOf e ≤ reachBytes := by
          have := hwt ((len + (m - len)) * P.bytesOf e) (by simp [DataW.weights, hu])
          exact Nat.le_trans (Nat.mul_le_mul_right _ (by omega)) this
        refine ⟨[.slice css.length css.flatten], repL_cons'.2 ⟨?_, repL_nil.2 rfl⟩, fun u hu => by simp at hu; subst hu; rfl, css, rfl, hby, i2⟩
        rw [DV.rep]
        refine ⟨some a, cap, by rw [hcl], by omega, hcm, fun hne => ?_⟩
        have hpos : 0 < len := by
          rcases Nat.eq_zero_or_pos len with h0 | h0
          · exfalso; apply hne
            have : css = [] := List.eq_nil_of_length_eq_zero (by omega)
            rw [this]; rfl
          · exact h0
        obtain ⟨hc0, _⟩ := hg 0 hpos
        obtain ⟨_, hl0, hcell0⟩ := World.cells?_some hc0
        have hlt := World.cells?_block hc0 h2
        obtain ⟨b, o, s⟩ := a
        cases s with
        | some s =>
          exfalso
          have h5 := hcell0 0 h2
          have : (g 0)[0]? ≠ none := by
            intro h6; rw [List.getElem?_eq_none_iff] at h6; omega
          apply this
          rw [← h5]
          simp only [Nat.zero_mul]
          have h7 : ((⟨b, o, some s⟩ : Addr).add 0).add 0 = (⟨b, o, some s⟩ : Addr) := by unfold Addr.add; simp
          rw [h7]
          exact cell_spot
        | none =>
          refine ⟨b, o, ((List.range' 0 len).map g).flatten, rfl, trivial, by rw [addr_add] at hlt; exact hlt, ?_, i4, i3⟩
          have := cellsAt_flat (w := w) (b := b) (o := o) (c := P.cellsOf e) (g := g) len 0 fun i _ hi => by
            obtain ⟨hc, _⟩ := hg i (by omega)
            obtain ⟨_, hl, hcell⟩ := World.cells?_some hc
            refine ⟨hl, fun j u hj => ?_⟩
            have hjl := (List.getElem?_eq_some_iff.1 hj).1
            have := hcell j (by omega)
            rw [addr_add, addr_add, hj] at this
            exact this
          rwa [Nat.zero_mul, Nat.add_zero] at this
    · rename_i fs hu
      simp only [Bool.and_eq_true, List.all_eq_true, beq_iff_eq] at h
      obtain ⟨h1, h2⟩ := h
      obtain ⟨xs, n, _, rfl, hl, hlen, hf⟩ := DataW.trod_struct hu hx
      obtain ⟨css, i1, i2, i3⟩ := fields_rep (w := w) (Q := Shp P d) fs.toList 0 vs (by rw [h2, hl]) fun f hfm => by
        obtain ⟨i, hi, hfi⟩ := List.mem_iff_getElem.1 hfm
        have hfi2 : fs[i]? = some f := by rw [← hfi]; simp at hi; simp [hi]
        have ht := hf i f hfi2
        have hxi : i < xs.length := by rw [hlen]; simpa using hi
        rw [List.getElem?_eq_getElem hxi] at ht
        exact ih f.type _ _ _ (h1 f hfm) ht fun q hq => hwt q (by
          simp only [DataW.weights, hu]
          exact DataW.weights_mem_each (j := i) (t := f.type) (d := xs[i].1) (by rw [List.getElem?_map]; simp [hfi2]) (by simp [hxi]) q hq)
      rw [List.drop_zero] at i2 i3
      exact ⟨css.flatten, i2, i3, css, rfl, i1⟩
    · rename_i n e hu
      simp only [Bool.and_eq_true] at h
      obtain ⟨h1, h2⟩ := h
      have h2 := Nat.eq_of_beq_eq_true h2
      obtain ⟨xs, m, _, rfl, hl, hlen, hel⟩ := DataW.trod_array hu hx
      obtain ⟨css, i1, i2, i3, i4⟩ := flat_rep (w := w) (Q := Shp P d e) ((List.range' 0 n).map fun i => (vs.drop (i * P.cellsOf e)).take (P.cellsOf e)) fun v hv => by
        obtain ⟨i, hi, rfl⟩ := List.mem_map.1 hv
        rw [List.mem_range'_1] at hi
        have ht := hel i (by omega)
        have hxi : i < xs.length := by omega
        rw [List.getElem?_eq_getElem hxi] at ht
        exact ih e _ _ _ h1 ht fun q hq => hwt q (by
          simp only [DataW.weights, hu]
          exact weights_all (List.mem_map.2 ⟨_, List.getElem_mem hxi, rfl⟩) hq)
      rw [chunks_flat n 0 (by rw [Nat.zero_add, h2, hl]), Nat.zero_mul, List.drop_zero] at i3 i4
      exact ⟨css.flatten, i3, i4, css, rfl, by rw [i1]; simp, i2⟩
    · cases h
end

end Go.Proofs.YtfcfmpdpjmbcnaaGreatDoor

/- From a contract on abstract values to a law's statement. Nothing of the program. -/
namespace Go.Proofs.YtfcfmpdpjmbcnaaGreatDoor
open Go.RowKit Go.ChangeShapes Go.WideShapes Go.ChangeAt

def aggB (P : Program) (t : TypeId) : Bool := match P.underlying t with | some (.struct _) | some (.array _ _) => true | _ => false
def argOf (P : Program) (t : TypeId) (cs : List DV) : DV := bif aggB P t then .agg cs else cs.headD .any
def ArgsShp (P : Program) (d : Nat) : List TypeId → List DV → Prop
  | [], l => l = []
  | t :: ts, l => ∃ cs l', l = argOf P t cs :: l' ∧ Shp P d t cs ∧ ArgsShp P d ts l'

section
variable {P : Program} {H : Type} {enc : TypeId × Value → H} {w : World} {base : Nat} {sp : Nat → Bool} {held : Bool}
theorem arg_rep {d : Nat} {t : TypeId} {v : Value} {r : Reach} {b0 : Nat} {x : DataW H} {ps : List MemPlace} (hp : plainT P d t = true) (hval : Value.okWide P w r b0 t v) (h : DataW.Trod enc P w base sp held t v x ps) (hwt : ∀ n ∈ x.weights P t, n ≤ reachBytes) :
    ∃ cs, Shp P d t cs ∧ (argOf P t cs).rep (fun _ => True) w v := by
  obtain ⟨fuel, hf⟩ := h
  obtain ⟨cs, h1, h2, h3⟩ := trod_shp d t _ fuel _ hp hf hwt
  refine ⟨cs, h3, ?_⟩
  have one : v.cells = #[v] → (cs.headD .any).rep (fun _ => True) w v := fun e => by
    rw [e] at h1
    cases cs with
    | nil => rw [repL_nil] at h1; simp at h1
    | cons c l =>
      obtain ⟨u, us, e2, h4, _⟩ := repL_cons.1 h1
      simp only [List.cons.injEq] at e2
      rw [e2.1]; exact h4
  have agg : ∀ arr, v = .agg arr → (DV.agg cs).rep (fun _ => True) w v := fun arr e => by
    subst e
    rw [DV.rep]
    exact ⟨arr.toList, by simp, h2, h1⟩
  cases d with
  | zero => simp [plainT] at hp
  | succ d =>
    unfold plainT at hp
    unfold argOf aggB
    split at hp
    · rename_i hu
      rw [hu]
      refine one ?_
      simp only [Value.okWide, hu, Cell.okWide] at hval
      cases v <;> first | exact rfl | (simp [Cell.ok, hu] at hval; done)
    · rename_i k hu
      rw [hu]
      obtain ⟨n, rfl⟩ := okWide_int hu hval
      exact one rfl
    · rename_i hu
      rw [hu]
      obtain ⟨s, rfl⟩ := okWide_string hu hval
      exact one rfl
    · rename_i e hu
      rw [hu]
      obtain ⟨a, l, c, rfl⟩ := okWide_slice hu hval
      exact one rfl
    · rename_i fs hu
      rw [hu]
      obtain ⟨arr, e, _⟩ := okWide_struct hu hval
      exact agg arr e
    · rename_i n e hu
      rw [hu]
      simp only [Value.okWide, hu] at hval
      obtain ⟨arr, e, _⟩ := hval
      exact agg arr e
    · cases hp
theorem args_rep {d : Nat} {r : Reach} {b0 : Nat} : ∀ (ts : List TypeId) (vs : List Value) (ds : List (DataW H)) (ps : List MemPlace), (∀ t ∈ ts, plainT P d t = true) → (∀ (j : Nat) t v, ts[j]? = some t → vs[j]? = some v → Value.okWide P w r b0 t v) →
    DataW.TrodAll enc P w base sp held ts vs ds ps → (∀ n ∈ DataW.weightsEach P ts ds, n ≤ reachBytes) → ∃ dvs, ArgsShp P d ts dvs ∧ DV.repL (fun _ => True) w dvs vs
  | [], vs, ds, ps, _, _, h, _ => by
    cases vs with
    | nil => exact ⟨[], rfl, repL_nil.2 rfl⟩
    | cons v vs => exact absurd h (by simp [DataW.TrodAll])
  | t :: ts, vs, ds, ps, hp, hv, h, hwt => by
    obtain ⟨v, vs', x, ds', a, b, rfl, rfl, rfl, h1, h2⟩ := trodAll_cons h
    obtain ⟨cs, c1, c2⟩ := arg_rep (hp t List.mem_cons_self) (hv 0 t v rfl rfl) h1 (fun n hn => hwt n (by simp only [DataW.weightsEach]; exact List.mem_append.2 (.inl hn)))
    obtain ⟨dvs, d1, d2⟩ := args_rep ts vs' ds' b (fun u hu => hp u (List.mem_cons_of_mem _ hu)) (fun j u v hj hv' => hv (j + 1) u v hj hv') h2 (fun n hn => hwt n (by simp only [DataW.weightsEach]; exact List.mem_append.2 (.inr hn)))
    exact ⟨argOf P t cs :: dvs, ⟨cs, dvs, rfl, c1, d1⟩, repL_cons'.2 ⟨c2, d2⟩⟩
theorem trodAll_below (hl : laidOutB P = true) {W W' : World} (hb : Below W.heap.size W W') : ∀ (ts : List TypeId) (vs : List Value) (ds : List (DataW H)) (ps : List MemPlace), (∀ t ∈ ts, P.readableRec t = true ∧ t < P.types.size) → (∀ x ∈ ps, x.block < W.heap.size) →
    DataW.TrodAll enc P W 0 (fun _ => true) true ts vs ds ps → DataW.TrodAll enc P W' 0 (fun b => decide (b < W.heap.size)) true ts vs ds ps
  | [], vs, ds, ps, _, _, h => by
    cases vs with
    | nil => cases ds with
      | nil => exact h
      | cons x l => exact h.elim
    | cons v l => exact absurd h (by simp [DataW.TrodAll])
  | t :: ts, vs, ds, ps, hr, hlt, h => by
    obtain ⟨v, vs', x, ds', a, b, rfl, rfl, rfl, h1, h2⟩ := trodAll_cons h
    obtain ⟨r1, r2⟩ := hr t List.mem_cons_self
    exact ⟨a, b, Below.trod hl r1 r2 h1 hb (fun y hy => hlt y (List.mem_append.2 (.inl hy))), trodAll_below hl hb ts vs' ds' b (fun u hu => hr u (List.mem_cons_of_mem _ hu)) (fun y hy => hlt y (List.mem_append.2 (.inr hy))) h2, rfl⟩

theorem law_post {f : Func} {s : ChangeSpec} {apart fresh handsOn : Bool} {W W' : World} {args : Array Value} {ds gs : List (DataW H)} {before : List MemPlace} {t : TypeId} (hW : DataW.Whole enc P f.params.toList s.vars apart W args.toList ds gs before) (hv : s.vars = [])
    (hfn : s.fn H ds = { results := [.lit (.bool true)], args := ds }) (hres : f.resultTypes = #[t]) (htb : P.underlying t = some .bool) (hl : laidOutB P = true) (hr : ∀ u ∈ f.params.toList, P.readableRec u = true ∧ u < P.types.size) (hb : Below W.heap.size W W') :
    s.post enc P f apart fresh handsOn false W args (.bool true) W' := by
  have hlt := hW.lt
  have hW' := hW
  obtain ⟨p, q, h1, h2, rfl, h3, h4⟩ := hW
  rw [hv] at h2
  obtain ⟨rfl, rfl⟩ := trodVars_none h2
  refine ⟨ds, [], p ++ [], [], p, [], hW', ?_, ?_, ?_, hb.frame _, fun h => by cases h⟩
  · rw [List.append_nil, hfn, hres]
    exact trodAll_mk1 (shut_bool htb true)
  · rw [List.append_nil, hfn]
    exact trodAll_below hl hb _ _ _ _ hr (fun x hx => hlt x (by simpa using hx)) h1
  · rw [hv, List.append_nil, hfn]
    rfl
end

end Go.Proofs.YtfcfmpdpjmbcnaaGreatDoor

/- The shapes of arguments, opened. Nothing of the program. -/
namespace Go.Proofs.YtfcfmpdpjmbcnaaGreatDoor
open Go.RowKit Go.ChangeShapes Go.WideShapes Go.ChangeAt

section
variable {P : Program} {d : Nat} {t e : TypeId} {cs : List DV}
theorem shp_int (hu : P.underlying t = some (.int .i64)) (h : Shp P (d + 1) t cs) : ∃ n, cs = [I n] ∧ I64 n := by
  unfold Shp at h; rw [hu] at h
  obtain ⟨n, h1, h2⟩ := h
  refine ⟨n, h1, ?_⟩
  simp [Lit.wf, IntKind.min, IntKind.max, IntKind.signed, IntKind.bits] at h2
  exact ⟨by omega, by omega⟩
theorem shp_slice (hu : P.underlying t = some (.slice e)) (h : Shp P (d + 1) t cs) : ∃ css : List (List DV), cs = [.slice css.length css.flatten] ∧ css.length * P.bytesOf e ≤ reachBytes ∧ ∀ c ∈ css, Shp P d e c := by
  unfold Shp at h; rw [hu] at h
  obtain ⟨css, h1, h2, h3⟩ := h
  exact ⟨css, h1, h2, h3⟩
theorem shp_struct {fs : Array Field} (hu : P.underlying t = some (.struct fs)) (h : Shp P (d + 1) t cs) : ∃ css : List (List DV), cs = css.flatten ∧ ShpL (Shp P d) (fs.toList.map (·.type)) css := by
  unfold Shp at h; rw [hu] at h; exact h
theorem shp_ints (hby : P.bytesOf e = 8) (hu : P.underlying t = some (.slice e)) (he : P.underlying e = some (.int .i64)) (h : Shp P (d + 2) t cs) : ∃ xs : List Int, cs = [isl xs] ∧ xs.length ≤ 140737488355328 ∧ ∀ x ∈ xs, I64 x := by
  obtain ⟨css, rfl, h1, h2⟩ := shp_slice hu h
  rw [hby] at h1
  unfold reachBytes at h1
  have key : ∀ css : List (List DV), (∀ c ∈ css, Shp P (d + 1) e c) → ∃ xs : List Int, css.flatten = ivs xs ∧ xs.length = css.length ∧ ∀ x ∈ xs, I64 x := by
    intro css
    induction css with
    | nil => intro _; exact ⟨[], rfl, rfl, by simp⟩
    | cons c css ih =>
      intro h
      obtain ⟨xs, i1, i2, i3⟩ := ih fun c hc => h c (List.mem_cons_of_mem _ hc)
      obtain ⟨n, rfl, hn⟩ := shp_int he (h c List.mem_cons_self)
      refine ⟨n :: xs, by rw [List.flatten_cons, i1]; rfl, by simp [i2], fun x hx => ?_⟩
      rcases List.mem_cons.1 hx with rfl | hx
      · exact hn
      · exact i3 x hx
  obtain ⟨xs, k1, k2, k3⟩ := key css h2
  refine ⟨xs, ?_, by omega, k3⟩
  rw [k1, ← k2]
end

end Go.Proofs.YtfcfmpdpjmbcnaaGreatDoor

/- The moves of a walk under short names: a walk's text is written often. Nothing of the program. -/
namespace Go.Proofs.YtfcfmpdpjmbcnaaGreatDoor
open Go.RowKit

section
variable {P : Program} {c : Fam} {Q : Exit → AS → Prop} {s : AS}
theorem zR {id : Nat} {l : List Oper} (hd : dstsB c.nt l = true) (h : RunT P l.toArray l s fun _ t => Q .normal t) : AWp P c (.region id l.toArray false) Q s := awp_region hd h
theorem zW (hm : P.follows .mixedOrders = true) {id : Nat} {l : List Oper} (hd : dstsB c.nt l = true) (h : RunT P l.toArray l s fun rs t => regOk l.toArray rs = true ∧ Q .normal t) : AWp P c (.region id l.toArray true) Q s := awp_region_any hm hd h
theorem zC {cnd : Operand} {x y : Code} {b : Bool} (hc : s.ev cnd = .d (.val (.bool b))) (ht : b = true → AWp P c x Q s) (hf : b = false → AWp P c y Q s) : AWp P c (.cond cnd x y) Q s := awp_cond hc ht hf
end
section
variable {P : Program} {c : Fam} {Q : Exit → AS → Prop} {s : AS} {cnd : Operand} {x y : Code}
theorem zCD {p : Prop} {_ : Decidable p} (hc : s.ev cnd = .d (.val (.bool (decide p)))) (h1 : p → AWp P c x Q s) (h2 : ¬ p → AWp P c y Q s) : AWp P c (.cond cnd x y) Q s := awp_condD hc h1 h2
theorem zCN {p : Prop} {_ : Decidable p} (hc : s.ev cnd = .d (.val (.bool (!decide p)))) (h1 : ¬ p → AWp P c x Q s) (h2 : p → AWp P c y Q s) : AWp P c (.cond cnd x y) Q s := awp_condN hc h1 h2
end
section
variable {next : AS → Prop} {Q : Exit → AS → Prop} {t : AS} {id id' : Nat}
theorem zX (hne : Nat.beq id' id = false) (h : Q (.exit id') t) : ABlock id Q (.exit id') t := q_blkX hne h
end
section
variable {P : Program} {ops : Array Oper} {l : List Oper} {F : Nat → AV} {M : Nat → Option Blk} {K : List Rec → AS → Prop} {op : Op} {ty : TypeId} {ps : String} {af : Array Edge} {gd : Option (Nat × Bool)}
theorem zE {s : AS} (h : K [] s) : RunT P ops [] s K := r_nil h
theorem zP {d : Nat} {rd : List Nat} {r : AV} (hd : ∀ gd, Does P ⟨some d, op, ty, ps, af, gd⟩ ⟨F, M⟩ rd (.put r)) (h : RunT P ops l ⟨upd F d r, M⟩ fun rs => K (⟨.put r, rd, tchOf ⟨some d, op, ty, ps, af, none⟩ ⟨F, M⟩⟩ :: rs)) : RunT P ops (⟨some d, op, ty, ps, af, none⟩ :: l) ⟨F, M⟩ K := r_put hd h
theorem zN {d : Nat} {rd : List Nat} {blk : Blk} {r : AV} (hd : ∀ gd, Does P ⟨some d, op, ty, ps, af, gd⟩ ⟨F, M⟩ rd (.newBlk blk r)) (h : RunT P ops l ⟨upd (fun i => (F i).kill d) d r, upd M d (some blk)⟩ fun rs => K (⟨.newBlk blk r, rd, tchOf ⟨some d, op, ty, ps, af, none⟩ ⟨F, M⟩⟩ :: rs)) : RunT P ops (⟨some d, op, ty, ps, af, none⟩ :: l) ⟨F, M⟩ K := r_new hd h
theorem zA {d nm : Nat} {rd : List Nat} {blk : Blk} {r : AV} (hd : ∀ gd, Does P ⟨some d, op, ty, ps, af, gd⟩ ⟨F, M⟩ rd (.app nm blk r)) (h : RunT P ops l ⟨upd (fun i => ((F i).kill nm).kill d) d r, upd (upd M nm none) d (some blk)⟩ fun rs => K (⟨.app nm blk r, rd, tchOf ⟨some d, op, ty, ps, af, none⟩ ⟨F, M⟩⟩ :: rs)) : RunT P ops (⟨some d, op, ty, ps, af, none⟩ :: l) ⟨F, M⟩ K := r_app hd h
theorem zS {nm : Nat} {rd : List Nat} {blk : Blk} (hd : ∀ gd, Does P ⟨none, op, ty, ps, af, gd⟩ ⟨F, M⟩ rd (.setBlk nm blk)) (h : RunT P ops l ⟨F, upd M nm (some blk)⟩ fun rs => K (⟨.setBlk nm blk, rd, tchOf ⟨none, op, ty, ps, af, none⟩ ⟨F, M⟩⟩ :: rs)) : RunT P ops (⟨none, op, ty, ps, af, none⟩ :: l) ⟨F, M⟩ K := r_set hd h
theorem zU {d j t : Nat} {b : Bool} (hg : gtmp ops ⟨some d, op, ty, ps, af, some (j, b)⟩ = some (t, b)) (hb : (AS.mk F M).ev (.tmp t) = .d (.val undef)) (h : RunT P ops l ⟨upd F d (.d (.val undef)), M⟩ fun rs => K (⟨.put (.d (.val undef)), [], tchOf ⟨some d, op, ty, ps, af, some (j, b)⟩ ⟨F, M⟩⟩ :: rs)) : RunT P ops (⟨some d, op, ty, ps, af, some (j, b)⟩ :: l) ⟨F, M⟩ K := r_noU hg hb h
theorem zD {dst : Option Tmp} {j t : Nat} {b : Bool} {p : Prop} {_ : Decidable p} (hg : gtmp ops ⟨dst, op, ty, ps, af, some (j, b)⟩ = some (t, b)) (hb : (AS.mk F M).ev (.tmp t) = .d (.val (.bool (decide p)))) (h1 : p → RunT P ops (⟨dst, op, ty, ps, af, some (j, b)⟩ :: l) ⟨F, M⟩ K) (h2 : ¬ p → RunT P ops (⟨dst, op, ty, ps, af, some (j, b)⟩ :: l) ⟨F, M⟩ K) : RunT P ops (⟨dst, op, ty, ps, af, some (j, b)⟩ :: l) ⟨F, M⟩ K := r_splitD hg hb h1 h2
theorem zB {dst : Option Tmp} {j t : Nat} {b q : Bool} (hg : gtmp ops ⟨dst, op, ty, ps, af, some (j, b)⟩ = some (t, b)) (hb : (AS.mk F M).ev (.tmp t) = .d (.val (.bool q))) (h1 : q = true → RunT P ops (⟨dst, op, ty, ps, af, some (j, b)⟩ :: l) ⟨F, M⟩ K) (h2 : q = false → RunT P ops (⟨dst, op, ty, ps, af, some (j, b)⟩ :: l) ⟨F, M⟩ K) : RunT P ops (⟨dst, op, ty, ps, af, some (j, b)⟩ :: l) ⟨F, M⟩ K := r_split hg hb h1 h2
end
theorem wp_gd {P : Program} {dst : Option Tmp} {op : Op} {ty : TypeId} {ps : String} {af : Array Edge} {g : Option (Nat × Bool)} {a : Act} {w : World} {K : Act → World → Prop} {Q : Exit → Act → World → Prop} (h : Oper.wp P ⟨dst, op, ty, ps, af, none⟩ a w K Q) : Oper.wp P ⟨dst, op, ty, ps, af, g⟩ a w K Q := by
  unfold Oper.wp at h ⊢
  exact h
theorem zY {P : Program} {ops : Array Oper} {l : List Oper} {s : AS} {K : List Rec → AS → Prop} {dst : Option Tmp} {op : Op} {ty : TypeId} {ps : String} {af : Array Edge} {j t : Nat} {b q : Bool} (hg : gtmp ops ⟨dst, op, ty, ps, af, some (j, b)⟩ = some (t, b)) (hb : s.ev (.tmp t) = .d (.val (.bool q))) (hq : q = b)
    (h : RunT P ops (⟨dst, op, ty, ps, af, none⟩ :: l) s K) : RunT P ops (⟨dst, op, ty, ps, af, some (j, b)⟩ :: l) s K := by
  obtain ⟨e, rd, hs, hr⟩ := h
  cases hs with
  | plain hg0 hd => exact ⟨e, rd, .yes hg (by rw [hb, hq]) ⟨fun c s' φ a w K Q h1 h2 h3 h4 h5 h6 => wp_gd (hd.run c s' φ a w K Q h1 h2 h3 h4 h5 h6)⟩, hr⟩
  | yes hg0 _ _ => cases hg0
  | no hg0 _ _ => cases hg0
  | nor hg0 _ => cases hg0
theorem zG {P : Program} {ops : Array Oper} {l : List Oper} {F : Nat → AV} {M : Nat → Option Blk} {K : List Rec → AS → Prop} {op : Op} {ty : TypeId} {ps : String} {af : Array Edge} {d j t : Nat} {b q : Bool} (hg : gtmp ops ⟨some d, op, ty, ps, af, some (j, b)⟩ = some (t, b)) (hb : (AS.mk F M).ev (.tmp t) = .d (.val (.bool q))) (hq : q = !b)
    (h : RunT P ops l ⟨upd F d (.d (.val undef)), M⟩ fun rs => K (⟨.put (.d (.val undef)), [], tchOf ⟨some d, op, ty, ps, af, some (j, b)⟩ ⟨F, M⟩⟩ :: rs)) : RunT P ops (⟨some d, op, ty, ps, af, some (j, b)⟩ :: l) ⟨F, M⟩ K := by
  cases b
  · exact r_noF hg hb hq h
  · exact r_noT hg hb hq h
theorem zK {P : Program} {c : Fam} {Q : Exit → AS → Prop} {s : AS} {cnd : Operand} {x y : Code} {q b : Bool} (hc : s.ev cnd = .d (.val (.bool q))) (hq : q = b) (h : AWp P c (bif b then x else y) Q s) : AWp P c (.cond cnd x y) Q s := by
  cases b
  · exact awp_condF hc hq h
  · exact awp_condT hc hq h
inductive Mv : Prop → Prop → Prop
  | seq {P : Program} {c : Fam} {Q : Exit → AS → Prop} {s : AS} {x y : Code} : Mv (AWp P c x (ASeq (AWp P c y Q) Q) s) (AWp P c (.seq x y) Q s)
  | blk {P : Program} {c : Fam} {Q : Exit → AS → Prop} {s : AS} {id : Nat} {x : Code} : Mv (AWp P c x (ABlock id Q) s) (AWp P c (.block id x) Q s)
  | skip {P : Program} {c : Fam} {Q : Exit → AS → Prop} {s : AS} : Mv (Q .normal s) (AWp P c .skip Q s)
  | ret {P : Program} {c : Fam} {Q : Exit → AS → Prop} {s : AS} : Mv (Q .ret s) (AWp P c .ret Q s)
  | exit {P : Program} {c : Fam} {Q : Exit → AS → Prop} {s : AS} {id : Nat} : Mv (Q (.exit id) s) (AWp P c (.exit id) Q s)
  | condT {P : Program} {c : Fam} {Q : Exit → AS → Prop} {s : AS} {x y : Code} : Mv (AWp P c x Q s) (AWp P c (bif true then x else y) Q s)
  | condF {P : Program} {c : Fam} {Q : Exit → AS → Prop} {s : AS} {x y : Code} : Mv (AWp P c y Q s) (AWp P c (bif false then x else y) Q s)
  | qseq {next : AS → Prop} {Q : Exit → AS → Prop} {t : AS} : Mv (next t) (ASeq next Q .normal t)
  | qseqE {next : AS → Prop} {Q : Exit → AS → Prop} {t : AS} {id : Nat} : Mv (Q (.exit id) t) (ASeq next Q (.exit id) t)
  | qseqR {next : AS → Prop} {Q : Exit → AS → Prop} {t : AS} : Mv (Q .ret t) (ASeq next Q .ret t)
  | qblk {Q : Exit → AS → Prop} {t : AS} {id : Nat} : Mv (Q .normal t) (ABlock id Q .normal t)
  | qblkE {Q : Exit → AS → Prop} {t : AS} {id : Nat} : Mv (Q .normal t) (ABlock id Q (.exit id) t)
  | qblkR {Q : Exit → AS → Prop} {t : AS} {id : Nat} : Mv (Q .ret t) (ABlock id Q .ret t)
theorem mv {p q : Prop} (h : Mv p q) (hp : p) : q := by
  cases h with
  | seq => exact awp_seq hp
  | blk => exact awp_block hp
  | skip => exact awp_skip hp
  | ret => exact awp_ret hp
  | exit => exact awp_exit hp
  | condT => exact hp
  | condF => exact hp
  | qseq => exact q_seq hp
  | qseqE => exact q_seqE hp
  | qseqR => exact q_seqR hp
  | qblk => exact q_blk hp
  | qblkE => exact q_blkE hp
  | qblkR => exact q_blkR hp
theorem zF {p : Prop} (h : p := by
    (repeat' (first | (with_reducible first | intro hg | refine mv (by constructor) ?_) | ((with_reducible first | refine zR ?_ ?_ | refine zW mixed ?_ ?_); exact kr) | ((with_reducible apply zK); exact rfl; exact tf) | ((with_reducible apply zCD); exact rfl) | ((with_reducible apply zCN); exact rfl) | ((with_reducible apply zC); exact rfl) | ((with_reducible refine zX ?_ ?_); exact rfl) | ((with_reducible refine zE (And.intro ?_ ?_)); exact kr) | (with_reducible refine zE ?_) | ((with_reducible apply zP); (first | exact dp | exact oc rfl (by assumption))) | ((with_reducible apply zN); exact dn) | ((with_reducible apply zA); exact da) | ((with_reducible apply zS); exact ds) | ((with_reducible apply zY); exact rfl; exact rfl; exact tf) | ((with_reducible apply zG); exact rfl; exact rfl; exact tf) | ((with_reducible apply zU); exact rfl; exact rfl) | ((with_reducible apply zD); exact rfl; exact rfl) | ((with_reducible apply zB); exact rfl; exact rfl)))
    ((with_reducible first | apply q_retR | apply q_retN); exact rl)
    rfl) : p := h

end Go.Proofs.YtfcfmpdpjmbcnaaGreatDoor
/- Merged: XM4 XM5 XM6. -/
set_option linter.unusedVariables false
set_option linter.unusedSimpArgs false
/- Ranges over functions: the caller's side. Nothing of the program. -/
namespace Go.Proofs.YtfcfmpdpjmbcnaaGreatDoor
open Go.RowKit

structure SameW (w w' : World) : Prop where
  os : w'.os = w.os
  tape : w'.tape = w.tape
  output : w'.output = w.output
  size : w.heap.size ≤ w'.heap.size
theorem SameW.refl (w : World) : SameW w w := ⟨rfl, rfl, rfl, Nat.le_refl _⟩
theorem SameW.trans {a b c : World} (h : SameW a b) (k : SameW b c) : SameW a c := ⟨k.os.trans h.os, k.tape.trans h.tape, k.output.trans h.output, Nat.le_trans h.size k.size⟩
theorem SameW.putObj (w : World) (l : Nat) (o : Obj) : SameW w (w.putObj l o) := ⟨rfl, rfl, rfl, by simp [World.putObj]⟩
theorem Glob.putLoop {w : World} (h : Glob w) {l : Nat} {r : Loop} (hl : w.heap[l]? = some (.loop r)) (o : Obj) : Glob (w.putObj l o) := h.keeps fun b hb => World.putObj_heap_other fun e => by
  obtain ⟨cs, t, f, hc⟩ := h.cells hb
  rw [e, hl] at hc; cases hc
theorem BelowX.same {ex : Nat → Prop} {w0 w : World} (h : BelowX ex w0 w) : SameW w0 w := ⟨h.os, h.tape, h.output, h.size⟩

inductive YA where
  | gv (ds : List DV)
  | sl (ty : TypeId) (cells : List DV) (n sz : Nat)
abbrev YN : Nat := 900000

def YA.rep (K okA : Nat → Prop) (W : World) : YA → List Value → Prop
  | .gv ds, vs => DV.repL okA W ds vs
  | .sl ty cells n sz, vs => ∃ g cap, vs = [.slice (some ⟨g, 0, none⟩) n cap] ∧ n ≤ cap ∧ cap ≤ maxLen ∧ ¬ K g ∧ ¬ okA g ∧ DV.flatL cells = true ∧ BlkAt okA W (g, cap * sz) ⟨ty, cells⟩
def YA.shows (d : YA) (vs : List Value) (b : Nat) : Prop := match d with
  | .gv _ => False
  | .sl _ _ n _ => ∃ cap, vs = [.slice (some ⟨b, 0, none⟩) n cap]

abbrev Ghost := Nat → (Nat → Prop) → World → Prop
def Stable (J : Ghost) : Prop := ∀ k K w w', J k K w → SameW w w' → (∀ b, K b → w'.heap[b]? = w.heap[b]?) → J k K w'

def AY (P : Program) (gf : FuncId) (bs caps : List DV) (xs : List YA) (fin : Bool) : Prop :=
  ∀ (fz0 : Nat → Prop) (w : World) (vs us : List Value) (l : Nat) (J Jx : Ghost), DV.repL fz0 w bs vs → DV.repL fz0 w caps us → (fin = false → ∀ K W, ¬ J xs.length K W) → (∀ b, fz0 b → b < w.heap.size) → Stable J → Stable Jx →
    (∀ k K W d args (okA : Nat → Prop), xs[k]? = some d → J k K W → (∀ b, K b → b < W.heap.size) → d.rep K okA W args → (∀ b, okA b → b < W.heap.size ∧ (fz0 b ∨ ¬ K b)) →
      YieldAt Fence.wide 0 P l args.toArray W fun e W' => SameW W W' ∧ (Glob W → Glob W') ∧ ∃ K', (∀ b, K b → K' b) ∧ (∀ b, K' b → K b ∨ okA b ∨ W.heap.size ≤ b) ∧ (∀ b, K' b → b < W'.heap.size) ∧ (∀ b, b < W.heap.size → (fz0 b ∨ ¬ K b) → ¬ d.shows args b → W'.heap[b]? = W.heap[b]?) ∧
        (∀ ty cells n sz g cap, d = .sl ty cells n sz → args = [.slice (some ⟨g, 0, none⟩) n cap] → BlkAt (fun _ => False) W' (g, cap * sz) ⟨ty, cells⟩) ∧
        ((e = .returned (.bool true) ∧ J (k + 1) K' W') ∨ (e = .returned (.bool false) ∧ Jx (k + 1) K' W'))) →
    ∀ K0, J 0 K0 w → (∀ b, K0 b ↔ b < w.heap.size) → ∀ [GlobI w],
    Calls P gf (vs ++ .func (.yield l) #[] #[] :: us).toArray w fun e w' => (∃ v, e = .returned v) ∧ SameW w w' ∧ ∃ K', (∀ b, K' b → b < w'.heap.size) ∧ (J xs.length K' w' ∨ ∃ k, Jx k K' w')

def kok (c : Ctx) (φ : Nat → Nat × Nat) (t : AS) (K : Nat → Prop) (b : Nat) : Prop := okOf c φ t b ∧ K b
structure RK (c : Ctx) (K : Nat → Prop) (t : AS) (φ : Nat → Nat × Nat) (a : Act) (W : World) : Prop where
  below : Below c.w0.heap.size c.w0 W
  k0 : ∀ b, b < c.w0.heap.size → K b
  defers : Marks c a.defers W
  kd : ∀ D, ({ target := .collected D, args := #[] } : Deferred) ∈ a.defers → K D
  size : a.tmps.size = c.nt
  ntv : c.nt ≤ VG
  fr : ∀ i, i ≠ VG → (t.fr i).rep (kok c φ t K) φ W (slotAt c a φ i)
  own : ∀ nm blk, t.mem nm = some blk → c.w0.heap.size ≤ (φ nm).1
  kn : ∀ nm, t.mem nm ≠ none → K (φ nm).1
  mem : ∀ nm blk, t.mem nm = some blk → BlkAt (kok c φ t K) W (φ nm) blk
  inj : ∀ n m, t.mem n ≠ none → t.mem m ≠ none → n ≠ m → (φ n).1 ≠ (φ m).1
  gl : Glob c.w0

section
variable {w0 : World} {ok : Nat → Prop} {nt : Nat} {K : Nat → Prop} {t : AS} {φ : Nat → Nat × Nat} {a : Act} {W W' : World}

theorem RK.toR (h : RK (kx w0 ok nt) K t φ a W) : R (kx w0 ok nt) t φ a W := by
  have hk : Keeps (kok (kx w0 ok nt) φ t K) W (okOf (kx w0 ok nt) φ t) W := Keeps.wide fun b hb _ => hb.1
  exact ⟨⟨h.below.os, h.below.tape, h.below.output, h.below.size, fun k hk _ => h.below.block k hk, h.gl, fun _ _ h => h⟩, h.defers, h.size, h.ntv, fun i hi => AV.rep_keeps hk (h.fr i hi), fun nm blk hn => .inl (h.own nm blk hn), fun nm blk hn => (h.mem nm blk hn).keeps hk rfl, h.inj, fun k _ => ⟨fun _ => False, trivial, fun _ _ h => h, fun _ h => h.elim, fun _ _ h => h⟩⟩
theorem RK.ofR (h : R (kx w0 ok nt) t φ a W) : RK (kx w0 ok nt) (· < W.heap.size) t φ a W := by
  have hk : Keeps (okOf (kx w0 ok nt) φ t) W (kok (kx w0 ok nt) φ t (· < W.heap.size)) W := Keeps.wide fun b hb hl => ⟨hb, hl⟩
  refine ⟨h.below.all fun _ h => h, fun b hb => Nat.lt_of_lt_of_le hb h.below.size, h.defers, fun D hD => ?_, h.size, h.ntv, fun i hi => AV.rep_keeps hk (h.fr i hi), fun nm blk hn => (h.own nm blk hn).resolve_right fun h => h, fun nm hn => h.lt hn, fun nm blk hn => (h.mem nm blk hn).keeps hk rfl, h.inj, h.below.gl.1⟩
  obtain ⟨Ds, h1, h2, h3⟩ := h.defers
  rw [h1] at hD
  obtain ⟨E, hE, he⟩ := List.mem_map.1 hD
  injection he with he1 _
  injection he1 with he2
  subst he2
  exact (Array.getElem?_eq_some_iff.1 (h3 E hE).2).1
theorem RK.stable {c : Ctx} (h : RK c K t φ a W) (hs : SameW W W') (hb : ∀ b, K b → W'.heap[b]? = W.heap[b]?) : RK c K t φ a W' := by
  have hk : Keeps (kok c φ t K) W (kok c φ t K) W' := ⟨fun _ hb _ => hb, hs.size, fun b o u hok _ hc => (World.cell?_of_block (a := ⟨b, o, none⟩) (hb b hok.2)).trans hc⟩
  refine ⟨⟨hs.os.trans h.below.os, hs.tape.trans h.below.tape, hs.output.trans h.below.output, Nat.le_trans h.below.size hs.size, fun k hk => (hb k (h.k0 k hk)).trans (h.below.block k hk)⟩, h.k0, ?_, h.kd, h.size, h.ntv, fun i hi => AV.rep_keeps hk (h.fr i hi), h.own, h.kn, fun nm blk hn => (h.mem nm blk hn).keeps hk (hb _ (h.kn nm (by rw [hn]; simp))), h.inj, h.gl⟩
  obtain ⟨Ds, h1, h2, h3⟩ := h.defers
  exact ⟨Ds, h1, h2, fun D hD => ⟨(h3 D hD).1, (hb D (h.kd D (by rw [h1]; exact List.mem_map.2 ⟨D, hD, rfl⟩))).trans (h3 D hD).2⟩⟩
theorem RK.weaken {c : Ctx} {t' : AS} (h : RK c K t φ a W) (hl : t.le t') : RK c K t' φ a W := by
  have hm : ∀ n, t'.mem n ≠ none → t.mem n ≠ none := fun n hn => by
    cases hb : t'.mem n with
    | none => exact absurd hb hn
    | some b => rw [hl.mem n b hb]; simp
  have hk : Keeps (kok c φ t K) W (kok c φ t' K) W := Keeps.wide fun b hb _ => by
    refine ⟨?_, hb.2⟩
    rcases hb.1 with hb | ⟨hb, hb2⟩
    · exact .inl hb
    · exact .inr ⟨hb, fun n hn => hb2 n (hm n hn)⟩
  refine ⟨h.below, h.k0, h.defers, h.kd, h.size, h.ntv, fun i hi => ?_, fun n b hb => h.own n b (hl.mem n b hb), fun n hn => h.kn n (hm n hn), fun n b hb => (h.mem n b (hl.mem n b hb)).keeps hk rfl, fun x y hx hy => h.inj x y (hm x hx) (hm y hy), h.gl⟩
  rcases hl.fr i with e | e
  · rw [e]; simp only [AV.rep, DV.rep]
  · rw [e]; exact AV.rep_keeps hk (h.fr i hi)
end

theorem blt_irr (n : Nat) : Nat.blt n n = false := by
  cases h : Nat.blt n n
  · rfl
  · have := Nat.le_of_ble_eq_true h; omega
theorem sl_inj {a b n n' c c' : Nat} (h : Value.slice (some ⟨a, 0, none⟩) n c = .slice (some ⟨b, 0, none⟩) n' c') : a = b ∧ c = c' := by
  injection h with h1 h2 h3
  injection h1 with h1
  injection h1 with h1
  exact ⟨h1, h3⟩
theorem blt_ge {n m : Nat} (h : Nat.blt n m = false) : m ≤ n := by
  rcases Nat.lt_or_ge n m with h1 | h1
  · have := Nat.ble_eq_true_of_le h1
    rw [show Nat.blt n m = Nat.ble (n + 1) m from rfl, this] at h; cases h
  · exact h1
theorem blt_no {n m : Nat} (h : m ≤ n) : Nat.blt n m = false := by
  cases h1 : Nat.blt n m
  · rfl
  · have := Nat.le_of_ble_eq_true h1; omega
theorem any_rep {ok : Nat → Prop} {φ : Nat → Nat × Nat} {w : World} {v : Value} : (AV.d .any).rep ok φ w v := by simp only [AV.rep, DV.rep]
/-! The body's frame: the loop's own, which it bears a second time in virtual slots. -/
def keepV : AV → AV
  | .d (.val v) => .d (.val v)
  | _ => .d .any
theorem keepV_rep {ok ok' : Nat → Prop} {φ φ' : Nat → Nat × Nat} {w w' : World} {x : AV} {v : Value} (h : x.rep ok φ w v) : (keepV x).rep ok' φ' w' v := by
  cases x with
  | d y =>
    cases y with
    | val u => exact (rep_val (ok := ok') (w := w')).2 ((rep_val (ok := ok) (w := w)).1 h)
    | _ => exact any_rep
  | _ => exact any_rep
theorem slotAt_hi {c : Ctx} {a : Act} {φ : Nat → Nat × Nat} {i : Nat} (h : PN ≤ i) : slotAt c a φ i = encP (φ i) := by
  unfold slotAt
  rw [blt_no (show GH ≤ i from Nat.le_trans (by decide) h), blt_no h]
  rfl
def savG (vg gh yn pn : Nat) (pin : AV) (F : Nat → AV) (i : Nat) : AV := bif Nat.blt i vg then (F i).kill yn else bif Nat.beq i vg then .d .any else bif Nat.blt (i - gh) vg then (F (i - gh)).kill yn else bif Nat.beq (i - gh) vg then pin else bif Nat.ble pn i then keepV (F i) else .d .any
theorem savG_cases (vg gh yn pn : Nat) (pin : AV) (F : Nat → AV) (i : Nat) (hi : i ≠ vg) : (i < vg ∧ savG vg gh yn pn pin F i = (F i).kill yn) ∨ (vg < i ∧ ((i - gh < vg ∧ savG vg gh yn pn pin F i = (F (i - gh)).kill yn) ∨ (i - gh = vg ∧ savG vg gh yn pn pin F i = pin) ∨ (pn ≤ i ∧ savG vg gh yn pn pin F i = keepV (F i)) ∨ savG vg gh yn pn pin F i = .d .any)) := by
  cases hb : Nat.blt i vg
  · have hge : vg ≤ i := blt_ge hb
    have hb2 : Nat.beq i vg = false := by
      cases h1 : Nat.beq i vg
      · rfl
      · exact absurd (Nat.eq_of_beq_eq_true h1) hi
    have key : savG vg gh yn pn pin F i = bif Nat.blt (i - gh) vg then (F (i - gh)).kill yn else bif Nat.beq (i - gh) vg then pin else bif Nat.ble pn i then keepV (F i) else .d .any := by
      simp only [savG, hb, hb2, cond_false]
    refine .inr ⟨Nat.lt_of_le_of_ne hge (Ne.symm hi), ?_⟩
    cases hb3 : Nat.blt (i - gh) vg
    · cases hb4 : Nat.beq (i - gh) vg
      · cases hb5 : Nat.ble pn i
        · exact .inr (.inr (.inr (by rw [key, hb3, hb4, hb5]; rfl)))
        · exact .inr (.inr (.inl ⟨Nat.le_of_ble_eq_true hb5, by rw [key, hb3, hb4, hb5]; rfl⟩))
      · exact .inr (.inl ⟨Nat.eq_of_beq_eq_true hb4, by rw [key, hb3, hb4]; rfl⟩)
    · exact .inl ⟨Nat.le_of_ble_eq_true hb3, by rw [key, hb3]; rfl⟩
  · exact .inl ⟨Nat.le_of_ble_eq_true hb, by simp only [savG, hb, cond_true]⟩
theorem savG_vg (vg gh yn pn : Nat) (pin : AV) (F : Nat → AV) : savG vg gh yn pn pin F vg = .d .any := by
  simp only [savG, blt_irr, Nat.beq_refl, cond_true, cond_false]
abbrev savF (pin : AV) (F : Nat → AV) (i : Nat) : AV := savG VG GH YN PN pin F i
theorem savF_cases (pin : AV) (F : Nat → AV) (i : Nat) (hi : i ≠ VG) : (i < VG ∧ savF pin F i = (F i).kill YN) ∨ (VG < i ∧ ((i - GH < VG ∧ savF pin F i = (F (i - GH)).kill YN) ∨ (i - GH = VG ∧ savF pin F i = pin) ∨ (PN ≤ i ∧ savF pin F i = keepV (F i)) ∨ savF pin F i = .d .any)) := savG_cases VG GH YN PN pin F i hi
theorem slotAt_ge {c : Ctx} {a : Act} {φ : Nat → Nat × Nat} {i : Nat} (h : VG < i) (h2 : i - GH ≤ VG) : slotAt c a φ i = c.gv (i - GH) := by
  unfold slotAt
  have hb : Nat.blt i PN = true := Nat.ble_eq_true_of_le (show i + 1 ≤ 3000000 by have : i - 1000000 ≤ 999999 := h2; omega)
  rw [blt_no (show GH ≤ i from h), hb]
  simp only [cond_false, cond_true]
def unsF (F : Nat → AV) (i : Nat) : AV := bif Nat.blt i VG then (F (GH + i)).kill YN else bif Nat.ble PN i then keepV (F i) else .d .any
def uns (t : AS) : AS := ⟨unsF t.fr, upd t.mem YN none⟩
def putL (s : AS) : List Nat → List AV → AS
  | p :: ps, x :: xs => putL ⟨upd s.fr p x, s.mem⟩ ps xs
  | _, _ => s
def bodyS (S : AS) (ps : List Nat) : YA → AS
  | .gv ds => putL ⟨savF (.d .any) S.fr, upd S.mem YN none⟩ ps (ds.map .d)
  | .sl ty cells n sz => putL ⟨savF (.lsl YN 0 n sz) S.fr, upd S.mem YN (some ⟨ty, cells⟩)⟩ ps [.lsl YN 0 n sz]
def shown (t : AS) : YA → Prop
  | .gv _ => True
  | .sl ty cells n sz => t.mem YN = some ⟨ty, cells⟩ ∧ t.fr (GH + VG) = .lsl YN 0 n sz


theorem putL_R {c : Ctx} {φ : Nat → Nat × Nat} {W : World} : ∀ (ps : List Nat) (xs : List AV) (vs : List Value) (s : AS) (a : Act), R c s φ a W → (∀ p ∈ ps, p < c.nt) → xs.length = ps.length → vs.length = ps.length → (∀ (j : Nat) (x : AV) (v : Value), xs[j]? = some x → vs[j]? = some v → x.rep (okOf c φ s) φ W v) →
    R c (putL s ps xs) φ { tmps := (ps.zip vs).foldl (fun t (p, v) => t.setIfInBounds p v) a.tmps, defers := a.defers } W
  | [], xs, vs, s, a, h, _, _, _, _ => by
    have : putL s [] xs = s := by cases xs <;> rfl
    rw [this]; exact h
  | p :: ps, [], vs, s, a, h, _, h2, _, _ => by simp at h2
  | p :: ps, x :: xs, [], s, a, h, _, _, h3, _ => by simp at h3
  | p :: ps, x :: xs, v :: vs, s, a, h, h1, h2, h3, h4 => by
    have hp := h.put (dst := some p) (r := x) (v := v) (fun d hd => by cases hd; exact h1 p (by simp)) (h4 0 x v rfl rfl)
    exact putL_R ps xs vs _ _ hp (fun q hq => h1 q (by simp [hq])) (by simpa using h2) (by simpa using h3) fun j x v hx hv => h4 (j + 1) x v (by simpa using hx) (by simpa using hv)
@[reducible] def rctx (W : World) (ok : Nat → Prop) (nt : Nat) (rd : Option Nat) (ex : Nat → Prop) (gv : Nat → Value) : Ctx := ⟨W, ok, nt, rd, false, ex, gv, fun _ _ _ => True, fun _ _ _ _ _ _ _ _ _ _ => trivial⟩
def named (s : AS) (φ : Nat → Nat × Nat) (b : Nat) : Prop := ∃ nm, s.mem nm ≠ none ∧ (φ nm).1 = b

theorem savF_R {w0 W : World} {ok : Nat → Prop} {nt : Nat} {K okA : Nat → Prop} {S : AS} {φ φ2 : Nat → Nat × Nat} {a : Act} {M : Nat → Option Blk} {rd : Option Nat} {gv : Nat → Value} {pin : AV} (h : RK (kx w0 ok nt) K S φ a W) (hK : ∀ b, K b → b < W.heap.size)
    (hφ : ∀ m, m ≠ YN → φ2 m = φ m) (hM : ∀ m, m ≠ YN → M m = S.mem m) (hY : M YN ≠ none → ¬ K (φ2 YN).1) (hYb : ∀ blk, M YN = some blk → BlkAt (fun b => kok (kx w0 ok nt) φ S K b ∨ okA b) W (φ2 YN) blk) (hYA : M YN ≠ none → ¬ okA (φ2 YN).1)
    (hA : ∀ b, okA b → b < W.heap.size ∧ ¬ named S φ b) (hg1 : ∀ j, j < VG → gv j = a.tmps.getD j undef) (hg2 : ∀ ok, pin.rep ok φ2 W (gv VG)) :
    R (rctx W (fun b => kok (kx w0 ok nt) φ S K b ∨ okA b) nt rd (named ⟨savF pin S.fr, M⟩ φ2) gv) ⟨savF pin S.fr, M⟩ φ2 { tmps := a.tmps, defers := [] } W := by
  have hnex : ∀ b, (kok (kx w0 ok nt) φ S K b ∨ okA b) → ¬ named ⟨savF pin S.fr, M⟩ φ2 b := by
    rintro b hb ⟨nm, hnm, e⟩
    by_cases en : nm = YN
    · subst en
      rcases hb with hb | hb
      · exact hY hnm (e ▸ hb.2)
      · exact hYA hnm (e ▸ hb)
    · have hn2 : S.mem nm ≠ none := by rw [← hM nm en]; exact hnm
      rw [hφ nm en] at e
      rcases hb with ⟨hb | hb, _⟩ | hb
      · obtain ⟨blk, hblk⟩ := Option.ne_none_iff_exists'.1 hn2
        have := h.own nm blk hblk
        have hlt : b < w0.heap.size := hb.1
        have : w0.heap.size ≤ (φ nm).1 := this
        omega
      · exact hb.2 nm hn2 e
      · exact (hA b hb).2 ⟨nm, hn2, e⟩
  have hlt : ∀ b, (kok (kx w0 ok nt) φ S K b ∨ okA b) → b < W.heap.size := fun b hb => by
    rcases hb with hb | hb
    · exact hK b hb.2
    · exact (hA b hb).1
  have hsub : ∀ b, (kok (kx w0 ok nt) φ S K b ∨ okA b) → okOf (rctx W (fun b => kok (kx w0 ok nt) φ S K b ∨ okA b) nt rd (named ⟨savF pin S.fr, M⟩ φ2) gv) φ2 ⟨savF pin S.fr, M⟩ b := fun b hb => .inl ⟨hlt b hb, hb, hnex b hb⟩
  have hk1 : Keeps (kok (kx w0 ok nt) φ S K) W (okOf (rctx W (fun b => kok (kx w0 ok nt) φ S K b ∨ okA b) nt rd (named ⟨savF pin S.fr, M⟩ φ2) gv) φ2 ⟨savF pin S.fr, M⟩) W := Keeps.wide fun b hb _ => hsub b (.inl hb)
  have hk2 : Keeps (fun b => kok (kx w0 ok nt) φ S K b ∨ okA b) W (okOf (rctx W (fun b => kok (kx w0 ok nt) φ S K b ∨ okA b) nt rd (named ⟨savF pin S.fr, M⟩ φ2) gv) φ2 ⟨savF pin S.fr, M⟩) W := Keeps.wide fun b hb _ => hsub b hb
  have hkill : ∀ j, j < VG → ((S.fr j).kill YN).rep (okOf (rctx W (fun b => kok (kx w0 ok nt) φ S K b ∨ okA b) nt rd (named ⟨savF pin S.fr, M⟩ φ2) gv) φ2 ⟨savF pin S.fr, M⟩) φ2 W (a.tmps.getD j undef) := fun j hj => by
    have h1 := h.fr j (Nat.ne_of_lt hj)
    rw [slotAt_lt hj] at h1
    exact AV.rep_kill hφ (AV.rep_keeps hk1 h1)
  have hGW : Glob W := h.gl.keeps fun b hb => h.below.block b (h.gl.lt hb)
  have hGn : ∀ b, GBlk b → ¬ named ⟨savF pin S.fr, M⟩ φ2 b := fun b hb ⟨nm, hnm, e⟩ => by
    have hnm : M nm ≠ none := hnm
    have hbl := h.gl.lt hb
    by_cases en : nm = YN
    · subst en; exact hY hnm (e ▸ h.k0 b hbl)
    · have hn2 : S.mem nm ≠ none := by rw [← hM nm en]; exact hnm
      obtain ⟨blk, hblk⟩ := Option.ne_none_iff_exists'.1 hn2
      have h7 : w0.heap.size ≤ (φ nm).1 := h.own nm blk hblk
      rw [hφ nm en] at e
      have hbl : b < w0.heap.size := hbl
      omega
  refine ⟨BelowX.refl hGW hGn, ⟨[], rfl, List.nodup_nil, fun D hD => by cases hD⟩, h.size, h.ntv, fun i hi => ?_, fun nm blk hn => .inr ⟨nm, by rw [hn]; simp, rfl⟩, fun nm blk hn => ?_, fun x y hx hy hxy => ?_, fun k hk => ?_⟩
  · show (savF pin S.fr i).rep _ φ2 W _
    rcases savF_cases pin S.fr i hi with ⟨h1, h2⟩ | ⟨h1, ⟨h2, h3⟩ | ⟨h2, h3⟩ | ⟨h2, h3⟩ | h2⟩
    · rw [h2, slotAt_lt h1]; exact hkill _ h1
    · rw [h3, (slotAt_ge h1 (Nat.le_of_lt h2)).trans (hg1 _ h2)]; exact hkill _ h2
    · rw [h3, (slotAt_ge h1 (Nat.le_of_eq h2)).trans (congrArg gv h2)]; exact hg2 _
    · have h5 := h.fr i hi
      rw [slotAt_hi h2] at h5
      rw [h3, slotAt_hi h2, hφ i (fun e => by have h6 : 3000000 ≤ i := h2; have h7 : i = 900000 := e; omega)]
      exact keepV_rep h5
    · rw [h2]; exact any_rep
  · by_cases e : nm = YN
    · subst e
      exact (hYb blk hn).keeps hk2 rfl
    · have hn2 : S.mem nm = some blk := by rw [← hM nm e]; exact hn
      rw [hφ nm e]
      exact (h.mem nm blk hn2).keeps hk1 rfl
  · have hx' : M x ≠ none := hx
    have hy' : M y ≠ none := hy
    by_cases ex : x = YN
    · subst ex
      have hyn : y ≠ YN := Ne.symm hxy
      rw [hφ y hyn]
      exact fun e => hY hx' (e ▸ h.kn y (by rw [← hM y hyn]; exact hy'))
    · rw [hφ x ex]
      by_cases ey : y = YN
      · subst ey
        exact fun e => hY hy' (e ▸ h.kn x (by rw [← hM x ex]; exact hx'))
      · rw [hφ y ey]
        exact h.inj x y (by rw [← hM x ex]; exact hx') (by rw [← hM y ey]; exact hy') hxy
  · exfalso
    have e : savF pin S.fr VG = .d .any := savG_vg _ _ _ _ _ _
    have hk : savF pin S.fr VG = .d (.val (.int .i64 k)) := hk
    rw [e] at hk; cases hk

theorem cell_loop {W : World} {l : Nat} {r : Loop} (h : W.heap[l]? = some (.loop r)) (o : Nat) : W.cell? ⟨l, o, none⟩ = none := by
  cases hc : W.cell? ⟨l, o, none⟩ with
  | none => rfl
  | some u =>
    obtain ⟨ob, h1, h2⟩ := cells_of_cell hc
    rw [h] at h1; cases h1; cases h2
theorem keeps_loop {W : World} {l : Nat} {r : Loop} (o' : Obj) (h : W.heap[l]? = some (.loop r)) (ok : Nat → Prop) : Keeps ok W ok (W.putObj l o') := by
  refine ⟨fun _ h _ => h, by simp [World.putObj], fun b o u _ _ hc => ?_⟩
  by_cases e : b = l
  · subst e; rw [cell_loop h] at hc; cases hc
  · exact (World.cell?_of_block (a := ⟨b, o, none⟩) (World.putObj_heap_other e)).trans hc
theorem blk_not_loop {ok : Nat → Prop} {W : World} {p : Nat × Nat} {blk : Blk} (h : BlkAt ok W p blk) {r : Loop} : W.heap[p.1]? ≠ some (.loop r) := by
  obtain ⟨vs, ex, hh, _⟩ := h
  rw [hh]; intro e; cases e
theorem R.swapL {W w : World} {ok ex : Nat → Prop} {nt : Nat} {rd : Option Nat} {gv : Nat → Value} {s : AS} {φ : Nat → Nat × Nat} {a : Act} (h : R (rctx W ok nt rd ex gv) s φ a w) {l : Nat} {r : Loop} (o' : Obj) (hl : w.heap[l]? = some (.loop r)) (hlW : l < W.heap.size) :
    R (rctx (W.putObj l o') ok nt rd ex gv) s φ a (w.putObj l o') := by
  have hsz : (W.putObj l o').heap.size = W.heap.size := by simp [World.putObj]
  have hok : okOf (rctx (W.putObj l o') ok nt rd ex gv) φ s = okOf (rctx W ok nt rd ex gv) φ s := by
    funext b; unfold okOf Ctx.mine; simp only [hsz]
  have hk := keeps_loop o' hl (okOf (rctx W ok nt rd ex gv) φ s)
  have hGP : Glob (W.putObj l o') := h.below.gl.1.keeps fun b hb => World.putObj_heap_other fun e => by
    obtain ⟨cs, t, f, hc⟩ := h.below.glob.cells hb
    rw [e, hl] at hc; cases hc
  have hlt : l < w.heap.size := (Array.getElem?_eq_some_iff.1 hl).1
  refine ⟨⟨h.below.os, h.below.tape, h.below.output, by simp [World.putObj]; exact h.below.size, fun k hk1 he => ?_, hGP, h.below.gl.2⟩, ?_, h.size, h.ntv, fun i hi => by rw [hok]; exact AV.rep_keeps hk (h.fr i hi), fun nm blk hn => ?_, fun nm blk hn => ?_, h.inj, fun k _ => ⟨fun _ => False, trivial, fun _ _ h => h, fun _ h => h.elim, fun _ _ h => h⟩⟩
  · rw [hsz] at hk1
    by_cases e : k = l
    · subst e; rw [World.putObj_heap_same hlt, World.putObj_heap_same hlW]
    · rw [World.putObj_heap_other e, World.putObj_heap_other e]; exact h.below.block k hk1 he
  · obtain ⟨Ds, h1, h2, h3⟩ := h.defers
    refine ⟨Ds, h1, h2, fun D hD => ⟨⟨rfl, by rw [hsz]; exact (h3 D hD).1.2⟩, ?_⟩⟩
    have hne : D ≠ l := by rintro rfl; have := (h3 D hD).2; rw [hl] at this; cases this
    exact (World.putObj_heap_other hne).trans (h3 D hD).2
  · have := h.own nm blk hn
    unfold Ctx.mine at *
    rw [hsz]; exact this
  · rw [hok]
    have hb := h.mem nm blk hn
    exact hb.keeps hk (World.putObj_heap_other (fun e => blk_not_loop hb (e ▸ hl)))

theorem round_RK {w0 W w3 : World} {ok : Nat → Prop} {nt : Nat} {K okA : Nat → Prop} {S t : AS} {φ φ2 φ3 : Nat → Nat × Nat} {a a3 : Act} {M : Nat → Option Blk} {rd : Option Nat} {gv : Nat → Value} {pin : AV} (h : RK (kx w0 ok nt) K S φ a W) (hK : ∀ b, K b → b < W.heap.size)
    (hφ : ∀ m, m ≠ YN → φ2 m = φ m) (hM : ∀ m, m ≠ YN → M m = S.mem m) (hY : M YN ≠ none → ¬ K (φ2 YN).1)
    (hA : ∀ b, okA b → b < W.heap.size ∧ ¬ named S φ b) (hA2 : ∀ b, okA b → b < w0.heap.size → ok b) (hg1 : ∀ j, j < VG → gv j = a.tmps.getD j undef) {n sz cap : Nat} (hg2 : M YN ≠ none → gv VG = .slice (some ⟨(φ2 YN).1, 0, none⟩) n cap ∧ (φ2 YN).2 = cap * sz)
    {l : Nat} {r r3 : Loop} (o' o3 : Obj) (hl : W.heap[l]? = some (.loop r)) (hl0 : w0.heap.size ≤ l) (hl3 : w3.heap[l]? = some (.loop r3))
    (h3 : R (rctx (W.putObj l o') (fun b => kok (kx w0 ok nt) φ S K b ∨ okA b) nt rd (named ⟨savF pin S.fr, M⟩ φ2) gv) t φ3 a3 w3) (hsh : M YN ≠ none → t.mem YN ≠ none ∧ t.fr (GH + VG) = .lsl YN 0 n sz) (hYd : M YN ≠ none → ∀ x, W.heap[(φ2 YN).1]? ≠ some (.deferred x)) :
    RK (kx w0 ok nt) (fun b => K b ∨ okA b ∨ (W.heap.size ≤ b ∧ b < (w3.putObj l o3).heap.size)) (uns t) φ3 a (w3.putObj l o3) ∧ (∀ nm, (uns t).mem nm ≠ none → named S φ (φ3 nm).1 ∨ W.heap.size ≤ (φ3 nm).1) ∧
      (∀ k, k < W.heap.size → k ≠ l → ¬ named S φ k → (M YN ≠ none → k ≠ (φ2 YN).1) → (w3.putObj l o3).heap[k]? = W.heap[k]?) ∧ (M YN ≠ none → φ3 YN = φ2 YN) := by
  have hszW : (W.putObj l o').heap.size = W.heap.size := by simp [World.putObj]
  have hsz3 : (w3.putObj l o3).heap.size = w3.heap.size := by simp [World.putObj]
  have hmine : ∀ b, (rctx (W.putObj l o') (fun b => kok (kx w0 ok nt) φ S K b ∨ okA b) nt rd (named ⟨savF pin S.fr, M⟩ φ2) gv).mine b → W.heap.size ≤ b ∨ named ⟨savF pin S.fr, M⟩ φ2 b := fun b hb => by
    rcases hb with hb | hb
    · exact .inl (by rw [← hszW]; exact hb)
    · exact .inr hb
  have hW0 := h.below.size
  -- an old named block is the caller's, or the one that is shown
  have hnam : ∀ b, named ⟨savF pin S.fr, M⟩ φ2 b → (K b ∧ w0.heap.size ≤ b ∧ named S φ b) ∨ (M YN ≠ none ∧ b = (φ2 YN).1) := by
    rintro b ⟨nm, hnm, e⟩
    have hnm : M nm ≠ none := hnm
    by_cases en : nm = YN
    · subst en; exact .inr ⟨hnm, e.symm⟩
    · rw [hφ nm en] at e
      have hn2 : S.mem nm ≠ none := by rw [← hM nm en]; exact hnm
      obtain ⟨blk, hblk⟩ := Option.ne_none_iff_exists'.1 hn2
      exact .inl ⟨e ▸ h.kn nm hn2, e ▸ h.own nm blk hblk, nm, hn2, e⟩
  have hpin2 : M YN ≠ none → φ3 YN = φ2 YN := fun hY1 => by
    have h1 := h3.fr (GH + VG) (by have : GH = VG + 1 := rfl; omega)
    rw [(hsh hY1).2] at h1
    obtain ⟨cap', h2, _, _, h5⟩ := h1
    have h6 := (slotAt_ge (c := rctx (W.putObj l o') (fun b => kok (kx w0 ok nt) φ S K b ∨ okA b) nt rd (named ⟨savF pin S.fr, M⟩ φ2) gv) (a := a3) (φ := φ3) (i := GH + VG) (by have : GH = VG + 1 := rfl; omega) (by omega)).symm.trans h2
    rw [show GH + VG - GH = VG by omega] at h6
    obtain ⟨h7, h8⟩ := hg2 hY1
    obtain ⟨h9, h10⟩ := sl_inj (h7.symm.trans h6)
    exact Prod.ext h9.symm (by rw [h8, h10]; omega)
  have hpin : M YN ≠ none → (φ3 YN).1 = (φ2 YN).1 := fun h => by rw [hpin2 h]
  have hun : ∀ b, (∀ nm, t.mem nm ≠ none → (φ3 nm).1 ≠ b) → ∀ nm, (uns t).mem nm ≠ none → (φ3 nm).1 ≠ b := fun b hb nm hn => hb nm (by
    have hn : upd t.mem YN none nm ≠ none := hn
    by_cases e : nm = YN
    · subst e; rw [upd_same] at hn; exact absurd rfl hn
    · rwa [upd_ne _ _ e] at hn)
  have hsub : ∀ b, okOf (rctx (W.putObj l o') (fun b => kok (kx w0 ok nt) φ S K b ∨ okA b) nt rd (named ⟨savF pin S.fr, M⟩ φ2) gv) φ3 t b → b < w3.heap.size → kok (kx w0 ok nt) φ3 (uns t) (fun b => K b ∨ okA b ∨ (W.heap.size ≤ b ∧ b < (w3.putObj l o3).heap.size)) b := by
    intro b hb hlt
    rcases hb with ⟨hb1, hb2, hb3⟩ | ⟨hb1, hb2⟩
    · have hb1 : b < W.heap.size := by rw [← hszW]; exact hb1
      have hunn : ∀ nm, t.mem nm ≠ none → (φ3 nm).1 ≠ b := fun nm hn e => by
        obtain ⟨blk, hblk⟩ := Option.ne_none_iff_exists'.1 hn
        rcases hmine _ (h3.own nm blk hblk) with h5 | h5
        · omega
        · exact hb3 (e ▸ h5)
      rcases hb2 with hb2 | hb2
      · refine ⟨?_, .inl hb2.2⟩
        rcases hb2.1 with h5 | h5
        · exact .inl h5
        · exact .inr ⟨h5.1, hun b hunn⟩
      · refine ⟨?_, .inr (.inl hb2)⟩
        rcases Nat.lt_or_ge b w0.heap.size with h5 | h5
        · exact .inl ⟨h5, hA2 b hb2 h5, fun h => h⟩
        · exact .inr ⟨.inl h5, hun b hunn⟩
    · rcases hmine b hb1 with h5 | h5
      · exact ⟨.inr ⟨.inl (Nat.le_trans hW0 h5), hun b hb2⟩, .inr (.inr ⟨h5, by rw [hsz3]; exact hlt⟩)⟩
      · rcases hnam b h5 with ⟨h6, h7, _⟩ | ⟨h6, h7⟩
        · exact ⟨.inr ⟨.inl h7, hun b hb2⟩, .inl h6⟩
        · exact absurd (hpin h6 |>.trans h7.symm) (hb2 YN (hsh h6).1)
  have hk : Keeps (okOf (rctx (W.putObj l o') (fun b => kok (kx w0 ok nt) φ S K b ∨ okA b) nt rd (named ⟨savF pin S.fr, M⟩ φ2) gv) φ3 t) w3 (kok (kx w0 ok nt) φ3 (uns t) (fun b => K b ∨ okA b ∨ (W.heap.size ≤ b ∧ b < (w3.putObj l o3).heap.size))) (w3.putObj l o3) := by
    have h5 := keeps_loop o3 hl3 (okOf (rctx (W.putObj l o') (fun b => kok (kx w0 ok nt) φ S K b ∨ okA b) nt rd (named ⟨savF pin S.fr, M⟩ φ2) gv) φ3 t)
    exact ⟨fun b hb hlt => hsub b hb hlt, h5.size, h5.cell⟩
  have hold : ∀ k, k < W.heap.size → k ≠ l → ¬ named ⟨savF pin S.fr, M⟩ φ2 k → (w3.putObj l o3).heap[k]? = W.heap[k]? := fun k hk1 hkl hkn => by
    rw [World.putObj_heap_other hkl, h3.below.block k (by rw [hszW]; exact hk1) hkn, World.putObj_heap_other hkl]
  have hmem : ∀ nm blk, (uns t).mem nm = some blk → nm ≠ YN ∧ t.mem nm = some blk := fun nm blk hn => by
    have hn : upd t.mem YN none nm = some blk := hn
    by_cases e : nm = YN
    · subst e; rw [upd_same] at hn; cases hn
    · exact ⟨e, by rwa [upd_ne _ _ e] at hn⟩
  have hown : ∀ nm blk, (uns t).mem nm = some blk → w0.heap.size ≤ (φ3 nm).1 ∧ ((K (φ3 nm).1 ∧ named S φ (φ3 nm).1) ∨ W.heap.size ≤ (φ3 nm).1) := fun nm blk hn => by
    obtain ⟨e, hn2⟩ := hmem nm blk hn
    rcases hmine _ (h3.own nm blk hn2) with h5 | h5
    · exact ⟨Nat.le_trans hW0 h5, .inr h5⟩
    · rcases hnam _ h5 with ⟨h6, h7, h8⟩ | ⟨h6, h7⟩
      · exact ⟨h7, .inl ⟨h6, h8⟩⟩
      · exact absurd (h7.trans (hpin h6).symm) (h3.inj nm YN (by rw [hn2]; simp) (hsh h6).1 e)
  have hnmk : ∀ k, k < w0.heap.size → ¬ named ⟨savF pin S.fr, M⟩ φ2 k := fun k hk1 hn => by
    rcases hnam k hn with ⟨_, h7, _⟩ | ⟨h6, h7⟩
    · omega
    · exact hY h6 (h7 ▸ h.k0 k hk1)
  refine ⟨?_, fun nm hn => ?_, fun k hk1 hkl hkn hky => hold k hk1 hkl fun hn => ?_, hpin2⟩
  rotate_left
  · obtain ⟨blk, hblk⟩ := Option.ne_none_iff_exists'.1 hn
    rcases (hown nm blk hblk).2 with h5 | h5
    · exact .inl h5.2
    · exact .inr h5
  · rcases hnam k hn with ⟨_, _, h7⟩ | ⟨h6, h7⟩
    · exact hkn h7
    · exact hky h6 h7
  refine ⟨⟨h3.below.os.trans h.below.os, h3.below.tape.trans h.below.tape, h3.below.output.trans h.below.output, ?_, fun k hk1 => ?_⟩, fun b hb => .inl (h.k0 b hb), ?_, fun D hD => .inl (h.kd D hD), h.size, h.ntv, fun i hi => ?_, fun nm blk hn => (hown nm blk hn).1, fun nm hn => ?_, fun nm blk hn => ?_, fun x y hx hy hxy => ?_, h.gl⟩
  · rw [hsz3]; exact Nat.le_trans hW0 (by rw [← hszW]; exact h3.below.size)
  · exact (hold k (Nat.lt_of_lt_of_le hk1 hW0) (by have : k < w0.heap.size := hk1; omega) (hnmk k hk1)).trans (h.below.block k hk1)
  · refine h.defers.keeps fun D hD0 hD => hold D (Array.getElem?_eq_some_iff.1 hD).1 (by rintro rfl; rw [hl] at hD; cases hD) fun hn => ?_
    obtain ⟨nm, hnm, e⟩ := hn
    have hnm : M nm ≠ none := hnm
    by_cases en : nm = YN
    · subst en; exact hYd hnm _ (e ▸ hD)
    · rw [hφ nm en] at e
      obtain ⟨blk, hblk⟩ := Option.ne_none_iff_exists'.1 (show S.mem nm ≠ none by rw [← hM nm en]; exact hnm)
      obtain ⟨vs, ex, hh, _⟩ := h.mem nm blk hblk
      rw [e, hD] at hh; cases hh
  · show (unsF t.fr i).rep _ φ3 _ _
    unfold unsF
    cases hb : Nat.blt i VG
    · cases hb2 : Nat.ble PN i
      · simp only [cond_false, AV.rep, DV.rep]
      · have hpn : PN ≤ i := Nat.le_of_ble_eq_true hb2
        have h5 := h3.fr i (fun e => by have h6 : 3000000 ≤ i := hpn; have h7 : i = 999999 := e; omega)
        rw [slotAt_hi hpn] at h5
        simp only [cond_false, cond_true]
        rw [slotAt_hi hpn]
        exact keepV_rep h5
    · simp only [cond_true]
      have hj : i < VG := Nat.le_of_ble_eq_true hb
      have h5 := h3.fr (GH + i) (by have : GH = VG + 1 := rfl; omega)
      have h6 : slotAt (rctx (W.putObj l o') (fun b => kok (kx w0 ok nt) φ S K b ∨ okA b) nt rd (named ⟨savF pin S.fr, M⟩ φ2) gv) a3 φ3 (GH + i) = slotAt (kx w0 ok nt) a φ3 i := by
        rw [slotAt_lt hj, slotAt_ge (by have : GH = VG + 1 := rfl; omega) (by omega)]
        rw [show GH + i - GH = i by omega]
        exact hg1 i hj
      rw [h6] at h5
      exact AV.rep_kill (fun _ _ => rfl) (AV.rep_keeps hk h5)
  · obtain ⟨blk, hblk⟩ := Option.ne_none_iff_exists'.1 hn
    obtain ⟨e, hn2⟩ := hmem nm blk hblk
    rcases (hown nm blk hblk).2 with h5 | h5
    · exact .inl h5.1
    · exact .inr (.inr ⟨h5, by rw [hsz3]; exact h3.lt (by rw [hn2]; simp)⟩)
  · obtain ⟨e, hn2⟩ := hmem nm blk hn
    have hb := h3.mem nm blk hn2
    exact hb.keeps hk (World.putObj_heap_other (fun e => blk_not_loop hb (e ▸ hl3)))
  · obtain ⟨bx, hbx⟩ := Option.ne_none_iff_exists'.1 hx
    obtain ⟨bY, hby⟩ := Option.ne_none_iff_exists'.1 hy
    exact h3.inj x y (by rw [(hmem x bx hbx).2]; simp) (by rw [(hmem y bY hby).2]; simp) hxy

end Go.Proofs.YtfcfmpdpjmbcnaaGreatDoor

/- Ranges over functions: the caller's rule. Nothing of the program. -/
namespace Go.Proofs.YtfcfmpdpjmbcnaaGreatDoor
open Go.RowKit

def YA.cnt : YA → Nat
  | .gv ds => ds.length
  | .sl _ _ _ _ => 1
def RPost (Q : Exit → AS → Prop) (next : AS → Prop) (d : YA) (e : Exit) (t : AS) : Prop := shown t d ∧ match e with
  | .normal => next (uns t)
  | .ret => Q .ret (uns t)
  | .exit id => Q (.exit id) (uns t)
  | .goto l => Q (.goto l) (uns t)
  | _ => False

theorem putL_mem : ∀ (ps : List Nat) (xs : List AV) (s : AS), (putL s ps xs).mem = s.mem
  | [], xs, s => by cases xs <;> rfl
  | _ :: _, [], _ => rfl
  | p :: ps, x :: xs, s => by
    have := putL_mem ps xs ⟨upd s.fr p x, s.mem⟩
    exact this

theorem R.putLoop {w0 w : World} {ok : Nat → Prop} {nt : Nat} {t : AS} {φ : Nat → Nat × Nat} {a : Act} (h : R (kx w0 ok nt) t φ a w) {l : Nat} {r : Loop} (o' : Obj) (hl : w.heap[l]? = some (.loop r)) (hl0 : w0.heap.size ≤ l) : R (kx w0 ok nt) t φ a (w.putObj l o') := by
  have hk := keeps_loop o' hl (okOf (kx w0 ok nt) φ t)
  refine ⟨⟨h.below.os, h.below.tape, h.below.output, by simp [World.putObj]; exact h.below.size, fun k hk1 he => (World.putObj_heap_other (by have : k < w0.heap.size := hk1; omega)).trans (h.below.block k hk1 he), h.below.gl⟩, h.defers.keeps fun D _ hD => World.putObj_heap_other (by rintro rfl; rw [hl] at hD; cases hD), h.size, h.ntv, fun i hi => AV.rep_keeps hk (h.fr i hi), h.own, fun nm blk hn => ?_, h.inj, fun k _ => ⟨fun _ => False, trivial, fun _ _ h => h, fun _ h => h.elim, fun _ _ h => h⟩⟩
  have hb := h.mem nm blk hn
  exact hb.keeps hk (World.putObj_heap_other (fun e => blk_not_loop hb (e ▸ hl)))
theorem R.addMark {w0 w : World} {ok : Nat → Prop} {nt : Nat} {t : AS} {φ : Nat → Nat × Nat} {a : Act} (h : R (kx w0 ok nt) t φ a w) {D : Nat} (hD : w.heap[D]? = some (.deferred (some []))) (hD0 : w0.heap.size ≤ D) (hn : ({ target := .collected D, args := #[] } : Deferred) ∉ a.defers) :
    R (kx w0 ok nt) t φ { a with defers := [{ target := .collected D, args := #[] }] ++ a.defers } w := by
  obtain ⟨Ds, h1, h2, h3⟩ := h.defers
  refine ⟨h.below, ⟨D :: Ds, by rw [h1]; rfl, List.nodup_cons.2 ⟨fun hm => hn (by rw [h1]; exact List.mem_map.2 ⟨D, hm, rfl⟩), h2⟩, fun E hE => ?_⟩, h.size, h.ntv, h.fr, h.own, h.mem, h.inj, fun k _ => ⟨fun _ => False, trivial, fun _ _ h => h, fun _ h => h.elim, fun _ _ h => h⟩⟩
  rcases List.mem_cons.1 hE with rfl | hE
  · exact ⟨⟨rfl, hD0⟩, hD⟩
  · exact h3 E hE

theorem nomatch_gv {ds : List DV} {ty : TypeId} {cells : List DV} {n sz : Nat} {p : Prop} (e : YA.gv ds = .sl ty cells n sz) : p := by cases e
theorem round_start {w0 W : World} {ok : Nat → Prop} {nt : Nat} {K okA : Nat → Prop} {S : AS} {φ : Nat → Nat × Nat} {a : Act} {psl : List Nat} {d : YA} {args : List Value} (h : RK (kx w0 ok nt) K S φ a W) (hK : ∀ b, K b → b < W.heap.size) (hd : d.rep K okA W args)
    (hA : ∀ b, okA b → b < W.heap.size ∧ ¬ named S φ b) (hps : ∀ p ∈ psl, p < nt) (hcnt : d.cnt = psl.length) (rd : Option Nat) :
    ∃ (M : Nat → Option Blk) (φ2 : Nat → Nat × Nat) (pin : AV) (gv : Nat → Value) (n sz cap : Nat), (∀ m, m ≠ YN → φ2 m = φ m) ∧ (∀ m, m ≠ YN → M m = S.mem m) ∧ (M YN ≠ none → ¬ K (φ2 YN).1) ∧ (∀ j, j < VG → gv j = a.tmps.getD j undef) ∧ (M YN ≠ none → gv VG = .slice (some ⟨(φ2 YN).1, 0, none⟩) n cap ∧ (φ2 YN).2 = cap * sz) ∧
      (M YN ≠ none → ∀ x, W.heap[(φ2 YN).1]? ≠ some (.deferred x)) ∧ (∀ t, shown t d → M YN ≠ none → t.mem YN ≠ none ∧ t.fr (GH + VG) = .lsl YN 0 n sz) ∧ (bodyS S psl d).mem = M ∧ (M YN ≠ none → d.shows args (φ2 YN).1) ∧
      (∀ ty cells n sz g cap, d = .sl ty cells n sz → args = [.slice (some ⟨g, 0, none⟩) n cap] → φ2 YN = (g, cap * sz) ∧ M YN ≠ none ∧ DV.flatL cells = true) ∧
      R (rctx W (fun b => kok (kx w0 ok nt) φ S K b ∨ okA b) nt rd (named ⟨savF pin S.fr, M⟩ φ2) gv) (bodyS S psl d) φ2 { tmps := (psl.zip args).foldl (fun t (p, v) => t.setIfInBounds p v) a.tmps, defers := [] } W := by
  cases d with
  | gv ds =>
    have hd : DV.repL okA W ds args := hd
    have hlen := repL_length hd
    have hc : ds.length = psl.length := hcnt
    have hM0 : upd S.mem YN none YN = none := upd_same _ _ _
    have hbase := savF_R (rd := rd) (gv := fun j => a.tmps.getD j undef) (pin := .d .any) (φ2 := φ) (M := upd S.mem YN none) (okA := okA) h hK (fun _ _ => rfl) (fun m hm => upd_ne _ _ hm) (fun hn => absurd hM0 hn) (fun blk hn => by rw [hM0] at hn; cases hn) (fun hn => absurd hM0 hn) hA (fun _ _ => rfl) (fun _ => any_rep)
    refine ⟨upd S.mem YN none, φ, .d .any, fun j => a.tmps.getD j undef, 0, 0, 0, fun _ _ => rfl, fun m hm => upd_ne _ _ hm, fun hn => absurd hM0 hn, fun _ _ => rfl, fun hn => absurd hM0 hn, fun hn => absurd hM0 hn, fun _ _ hn => absurd hM0 hn, putL_mem _ _ _, fun hn => absurd hM0 hn, fun _ _ _ _ _ _ e _ => nomatch_gv e, ?_⟩
    refine putL_R psl (ds.map .d) args _ _ hbase hps (by simp [hc]) (by omega) fun j x v hx hv => ?_
    rw [List.getElem?_map] at hx
    obtain ⟨x', hx', rfl⟩ := Option.map_eq_some_iff.1 hx
    obtain ⟨u, hu, hru⟩ := repL_get hd hx'
    rw [hv] at hu; cases hu
    show DV.rep _ W x' v
    refine DV.rep_keeps (Keeps.wide fun b hb _ => ?_) x' v hru
    refine .inl ⟨(hA b hb).1, .inr hb, ?_⟩
    rintro ⟨nm, hnm, e⟩
    have hnm : upd S.mem YN none nm ≠ none := hnm
    by_cases en : nm = YN
    · subst en; exact hnm hM0
    · rw [upd_ne _ _ en] at hnm
      exact (hA b hb).2 ⟨nm, hnm, e⟩
  | sl ty cells n sz =>
    obtain ⟨g, cap, rfl, h1, h2, h3, h4, h5, h6⟩ := hd
    have hc : 1 = psl.length := hcnt
    have hM0 : upd S.mem YN (some ⟨ty, cells⟩) YN = some ⟨ty, cells⟩ := upd_same _ _ _
    have hφ0 : upd φ YN (g, cap * sz) YN = (g, cap * sz) := upd_same _ _ _
    have hpinr : ∀ ok', (AV.lsl YN 0 n sz).rep ok' (upd φ YN (g, cap * sz)) W (.slice (some ⟨g, 0, none⟩) n cap) := fun ok' => ⟨cap, by rw [hφ0], h1, h2, by rw [hφ0]; simp⟩
    have hgv1 : ∀ j, j < VG → (fun j => if j = VG then Value.slice (some ⟨g, 0, none⟩) n cap else a.tmps.getD j undef) j = a.tmps.getD j undef := fun j hj => if_neg (Nat.ne_of_lt hj)
    have hgv2 : (fun j => if j = VG then Value.slice (some ⟨g, 0, none⟩) n cap else a.tmps.getD j undef) VG = .slice (some ⟨g, 0, none⟩) n cap := if_pos rfl
    have hbase := savF_R (rd := rd) (gv := fun j => if j = VG then .slice (some ⟨g, 0, none⟩) n cap else a.tmps.getD j undef) (pin := .lsl YN 0 n sz) (φ2 := upd φ YN (g, cap * sz)) (M := upd S.mem YN (some ⟨ty, cells⟩)) (okA := okA) h hK (fun m hm => upd_ne _ _ hm) (fun m hm => upd_ne _ _ hm) (fun _ => by rw [hφ0]; exact h3)
      (fun blk hn => by
        rw [hM0] at hn; cases hn
        rw [hφ0]
        exact h6.keeps (Keeps.wide fun b hb _ => .inr hb) rfl) (fun _ => by rw [hφ0]; exact h4) hA hgv1 (fun ok' => by rw [if_pos rfl]; exact hpinr ok')
    refine ⟨upd S.mem YN (some ⟨ty, cells⟩), upd φ YN (g, cap * sz), .lsl YN 0 n sz, fun j => if j = VG then .slice (some ⟨g, 0, none⟩) n cap else a.tmps.getD j undef, n, sz, cap, fun m hm => upd_ne _ _ hm, fun m hm => upd_ne _ _ hm, fun _ => by rw [hφ0]; exact h3, hgv1, fun _ => ⟨by rw [hφ0]; exact hgv2, by rw [hφ0]⟩, fun _ x hx => ?_, fun t ht _ => ⟨by rw [ht.1]; simp, ht.2⟩, putL_mem _ _ _, fun _ => ⟨cap, by rw [hφ0]⟩, fun ty' cells' n' sz' g' cap' e1 e2 => ?_, ?_⟩
    · rw [hφ0] at hx
      obtain ⟨vs, ex, hh, _⟩ := h6
      rw [hx] at hh; cases hh
    · cases e1
      injection e2 with e2 _
      obtain ⟨e3, e4⟩ := sl_inj e2
      subst e3; subst e4
      exact ⟨hφ0, by rw [hM0]; simp, h5⟩
    · refine putL_R psl [.lsl YN 0 n sz] [.slice (some ⟨g, 0, none⟩) n cap] _ _ hbase hps (by simpa using hc) (by simpa using hc) fun j x v hx hv => ?_
      cases j with
      | zero => cases hx; cases hv; exact hpinr _
      | succ j => simp at hx

theorem YA.rep_len {K okA : Nat → Prop} {W : World} {d : YA} {args : List Value} (h : d.rep K okA W args) : args.length = d.cnt := by
  cases d with
  | gv ds => exact repL_length h
  | sl ty cells n sz => obtain ⟨g, cap, rfl, _⟩ := h; rfl

inductive FnB (s : AS) (y : Operand) (f : FuncId) : List DV → List DV → Prop
  | val (h : s.ev y = .d (.val (.func (.func f) #[] #[]))) : FnB s y f [] []
  | fn {bs caps} (h : s.ev y = .d (.fn (.func f) bs caps)) : FnB s y f bs caps

theorem awp_rangeFunc {P : Program} {w0 : World} {ok : Nat → Prop} {nt : Nat} {Q : Exit → AS → Prop} {s : AS} {g : Operand} {psl : List Nat} {assign body : Code} {gf : FuncId} {bs caps : List DV} {xs : List YA} {fin : Bool} {α : Type} (st : Nat → α → AS) (I : Nat → α → Prop) (x0 : α)
    (he : Enters P gf) (hg : FnB s g gf bs caps) (hAY : AY P gf bs caps xs fin) (hI : I 0 x0) (h0 : s.le (st 0 x0)) (hps : ∀ p ∈ psl, p < nt) (hcnt : ∀ d ∈ xs, d.cnt = psl.length)
    (round : ∀ k x d, I k x → xs[k]? = some d → ∀ W ok' rd ex gv, AWp P (one (rctx W ok' nt rd ex gv)) assign (fun e t => e = .normal ∧ ∀ W', AWp P (one (rctx W' ok' nt rd ex gv)) body (RPost Q (fun u => ∃ y, I (k + 1) y ∧ u.le (st (k + 1) y)) d) t) (bodyS (st k x) psl d))
    (never : fin = false → ∀ x, ¬ I xs.length x) (after : fin = true → ∀ x, I xs.length x → Q .normal (st xs.length x)) : AWp P (ctx0 w0 ok nt) (.rangeFunc g psl.toArray assign body) Q s := ⟨fun φ a w hR => by
  replace hR := RF.one.1 hR
  refine wpIn_rangeFunc (F := fz none) (n := 0) fun fn _ => ?_
  obtain ⟨vs, us, hgv, hvs, hus⟩ : ∃ vs us : List Value, a.eval g = .func (.func gf) vs.toArray us.toArray ∧ DV.repL (okOf (kx w0 ok nt) φ s) w bs vs ∧ DV.repL (okOf (kx w0 ok nt) φ s) w caps us := by
    have h1 := hR.ev g
    cases hg with
    | val h => rw [h] at h1; exact ⟨[], [], (rep_val (ok := okOf (kx w0 ok nt) φ s) (w := w)).1 h1, repL_nil.2 rfl, repL_nil.2 rfl⟩
    | fn h =>
      rw [h] at h1
      have h1 : DV.rep _ w _ _ := h1
      rw [DV.rep] at h1
      obtain ⟨vs, us, e, h2, h3⟩ := h1
      exact ⟨vs, us, e, h2, h3⟩
  obtain ⟨rec, hrec⟩ : ∃ rec : LoopState → Option Code → Loop, rec = fun st pe => { state := st, pending := pe, fn, tmps := a.tmps, params := psl.toArray, assign, body, defers := w.heap.size } := ⟨_, rfl⟩
  obtain ⟨W1, hW1⟩ : ∃ W1, (w.alloc (.deferred (some []))).alloc (.loop (rec .ready none)) = W1 := ⟨_, rfl⟩
  have hsz1 : W1.heap.size = w.heap.size + 2 := by rw [← hW1]; simp
  have hL1 : W1.heap[w.heap.size + 1]? = some (.loop (rec .ready none)) := by
    rw [← hW1]; have := World.alloc_heap_new (w.alloc (.deferred (some []))) (.loop (rec .ready none)); rwa [World.size_alloc] at this
  have hD1 : W1.heap[w.heap.size]? = some (.deferred (some [])) := by
    rw [← hW1]; exact (Below.heap_alloc _ _ _ (by simp)).trans (World.alloc_heap_new w _)
  have hb1 : Below w.heap.size w W1 := by
    rw [← hW1]; exact ((Below.refl _ w).alloc (Nat.le_refl _) _).alloc (by simp) _
  have hR1 := (hR.below' hb1).weaken h0
  have hK1 := RK.ofR hR1
  have hw0 : w0.heap.size ≤ w.heap.size := hR.below.size
  have hmk : ({ target := .collected w.heap.size, args := #[] } : Deferred) ∉ a.defers := fun hm => Nat.lt_irrefl _ ((RK.ofR hR).kd _ hm)
  refine ⟨w.heap.size + 1, [{ target := .collected w.heap.size, args := #[] }], W1, { target := .fn (.func gf) us.toArray, args := vs.toArray ++ #[.func (.yield (w.heap.size + 1)) #[] #[]] }, W1, gf,
    vs.toArray ++ #[.func (.yield (w.heap.size + 1)) #[] #[]] ++ us.toArray, W1, ?_, ?_, fun _ _ => trivial, ?_, fun h => by simp [fz, Fence.wide] at h, ?_⟩
  · rw [← hW1, hrec]; exact run_enterLoop_outer _ _ _ _ _
  · simp only [resolve, hgv]
    simp [go_sem]
  · have he' : (callFunc gf (vs.toArray ++ #[.func (.yield (w.heap.size + 1)) #[] #[]] ++ us.toArray)).run P W1 = .ok (.enter gf (vs.toArray ++ #[.func (.yield (w.heap.size + 1)) #[] #[]] ++ us.toArray)) W1 := he _ W1
    simp [invoke, go_sem] at he' ⊢
    exact he'
  -- the iterator's contract
  have hfz : ∀ b, (okOf (kx w0 ok nt) φ s b ∧ b < w.heap.size) → b < W1.heap.size := fun b hb => by omega
  have hbs : DV.repL (fun b => okOf (kx w0 ok nt) φ s b ∧ b < w.heap.size) W1 bs vs := DV.repL_keeps ⟨fun b hb hl => ⟨hb, hl⟩, hb1.size, fun b o u _ hl hc => (hb1.cell (p := ⟨b, o, none⟩) hl).trans hc⟩ _ _ hvs
  have hcaps : DV.repL (fun b => okOf (kx w0 ok nt) φ s b ∧ b < w.heap.size) W1 caps us := DV.repL_keeps ⟨fun b hb hl => ⟨hb, hl⟩, hb1.size, fun b o u _ hl hc => (hb1.cell (p := ⟨b, o, none⟩) hl).trans hc⟩ _ _ hus
  haveI : GlobI W1 := ⟨hR.below.glob.keeps fun b hb => hb1.block b (hR.below.glob.lt hb)⟩
  have key := hAY (fun b => okOf (kx w0 ok nt) φ s b ∧ b < w.heap.size) W1 vs us (w.heap.size + 1)
    (fun k K W => ∃ x φ', I k x ∧ RK (kx w0 ok nt) K (st k x) φ' a W ∧ (∀ b, named (st k x) φ' b → ¬ (okOf (kx w0 ok nt) φ s b ∧ b < w.heap.size)) ∧ W.heap[w.heap.size + 1]? = some (.loop (rec .ready none)) ∧ W.heap[w.heap.size]? = some (.deferred (some [])) ∧ K (w.heap.size + 1) ∧ K w.heap.size)
    (fun k K W => ∃ cd t φ', RK (kx w0 ok nt) K t φ' a W ∧ W.heap[w.heap.size + 1]? = some (.loop (rec .done (some cd))) ∧ W.heap[w.heap.size]? = some (.deferred (some [])) ∧ K (w.heap.size + 1) ∧ K w.heap.size ∧ ((cd = .ret ∧ Q .ret t) ∨ (∃ id, cd = .exit id ∧ Q (.exit id) t) ∨ (∃ l', cd = .goto l' ∧ Q (.goto l') t)))
    hbs hcaps (fun hfin K W ⟨x, _, h, _⟩ => never hfin x h) hfz
    (fun k K W W' ⟨x, φ', h1, h2, h3, h4, h5, h6, h7⟩ hs hb => ⟨x, φ', h1, h2.stable hs hb, h3, (hb _ h6).trans h4, (hb _ h7).trans h5, h6, h7⟩)
    (fun k K W W' ⟨cd, t, φ', h1, h2, h3, h4, h5, h6⟩ hs hb => ⟨cd, t, φ', h1.stable hs hb, (hb _ h4).trans h2, (hb _ h5).trans h3, h4, h5, h6⟩)
    ?_ (· < W1.heap.size) ⟨x0, φ, hI, hK1, ?_, hL1, hD1, by omega, by omega⟩ (fun b => Iff.rfl)
  · -- behind the iterator
    have harg : (vs.toArray ++ #[Value.func (.yield (w.heap.size + 1)) #[] #[]] ++ us.toArray) = (vs ++ .func (.yield (w.heap.size + 1)) #[] #[] :: us).toArray := by simp
    rw [harg]
    refine callsIn_fz (key.mono ?_)
    rintro e w3 ⟨⟨v, rfl⟩, hs3, K', hK', hJ | ⟨k, hJ⟩⟩
    · obtain ⟨x, φ', hIx, hrk, _, hl, hD, _, _⟩ := hJ
      have hend : (Instr.endLoop (w.heap.size + 1)).run P w3 = .ok none (w3.putObj (w.heap.size + 1) (.loop { rec .ready none with state := .exhausted })) := by
        have hr := run_endLoop (P := P) hl (by rw [hrec]; simp)
        rw [hrec] at hr ⊢; exact hr
      refine ⟨none, _, hend, ?_⟩
      have h1 := hrk.toR.addMark hD hw0 hmk
      refine ⟨st xs.length x, φ', ?_, RF.one.2 (h1.putLoop _ hl (by omega))⟩
      cases hfin : fin with
      | false => exact absurd hIx (never hfin x)
      | true => exact after hfin x hIx
    · obtain ⟨cd, t, φ', hrk, hl, hD, _, _, hc⟩ := hJ
      have hend : (Instr.endLoop (w.heap.size + 1)).run P w3 = .ok (some cd) (w3.putObj (w.heap.size + 1) (.loop { rec .done (some cd) with state := .exhausted })) := by
        have hr := run_endLoop (P := P) hl (by rw [hrec]; simp)
        rw [hrec] at hr ⊢; exact hr
      refine ⟨some cd, _, hend, ?_⟩
      have h1 := (hrk.toR.addMark hD hw0 hmk).putLoop (.loop { rec .done (some cd) with state := .exhausted }) hl (by omega)
      rcases hc with ⟨rfl, hq⟩ | ⟨id, rfl, hq⟩ | ⟨l', rfl, hq⟩
      · exact wpIn_ret ⟨t, φ', hq, RF.one.2 h1⟩
      · exact wpIn_exit ⟨t, φ', hq, RF.one.2 h1⟩
      · exact wpIn_goto ⟨t, φ', hq, RF.one.2 h1⟩
  · -- one round
    rintro k K W d args okA hd ⟨x, φ', hIx, hrk, hnf, hl, hD, hKl, hKD⟩ hKlt hrep hokA
    have hcn := hcnt d (List.mem_of_getElem? hd)
    have hlen := YA.rep_len hrep
    have hy := run_yield (P := P) (args := args.toArray) hl (by rw [hrec]; simp [hlen, hcn])
    have hlW : w.heap.size + 1 < W.heap.size := hKlt _ hKl
    have hA1 : ∀ b, okA b → b < W.heap.size ∧ ¬ named (st k x) φ' b := fun b hb => by
      obtain ⟨h1, h2⟩ := hokA b hb
      refine ⟨h1, fun hn => ?_⟩
      rcases h2 with h2 | h2
      · exact hnf b hn h2
      · obtain ⟨nm, hnm, e⟩ := hn
        exact h2 (e ▸ hrk.kn nm hnm)
    have hA2 : ∀ b, okA b → b < w0.heap.size → ok b := fun b hb hlt => by
      rcases (hokA b hb).2 with h2 | h2
      · rcases h2.1 with h3 | h3
        · exact h3.2.1
        · rcases h3.1 with h4 | h4
          · have : w0.heap.size ≤ b := h4
            omega
          · exact h4.elim
      · exact absurd (hrk.k0 b hlt) h2
    obtain ⟨M, φ2, pin, gv, n, sz, cap, hφ, hM, hY, hg1, hg2, hYd, hsh, hmemB, hshow, hslv, hRs⟩ := round_start (psl := psl) hrk hKlt hrep hA1 hps hcn (some (w.heap.size + 1))
    have hnl : ∀ {o : Obj} {b : Nat}, o.isCells = false → W.heap[b]? = some o → ¬ named ⟨savF pin (st k x).fr, M⟩ φ2 b := fun ho hb ⟨nm, hnm, e⟩ => by
      have hnm : (bodyS (st k x) psl d).mem nm ≠ none := by rw [hmemB]; exact hnm
      obtain ⟨blk, hblk⟩ := Option.ne_none_iff_exists'.1 hnm
      obtain ⟨vs, ex, hh, _⟩ := hRs.mem nm blk hblk
      rw [e, hb] at hh; cases hh; cases ho
    refine ⟨fn, _, assign, body, by rw [hrec] at hy; exact hy, roundIn_of_wpIn (F := Fence.wide) (n := 0) trivial ?_⟩
    have htm : (psl.toArray.zip args.toArray).foldl (fun tmps (t, a) => tmps.setIfInBounds t a) a.tmps = (psl.zip args).foldl (fun t (p, v) => t.setIfInBounds p v) a.tmps := by simp
    rw [htm]
    refine wpIn_mono ((round k x d hIx hd W _ _ _ _).run _ _ _ (RF.one.2 hRs)) ?_
    rintro e a1 w1 ⟨t1, φ1, ⟨rfl, hbody⟩, hRa⟩
    replace hRa := RF.one.1 hRa
    have hl1 : w1.heap[w.heap.size + 1]? = some (.loop (rec .ready none)) := (hRa.below.block _ hlW (hnl rfl hl)).trans hl
    refine ⟨_, run_beginRound hl1 (by rw [hrec]), ?_⟩
    have hRb := hRa.swapL (.loop { rec .ready none with state := .busy }) hl1 hlW
    refine wpIn_mono ((hbody _).run _ _ _ (RF.one.2 hRb)) ?_
    rintro e a3 w3 ⟨t, φ3, ⟨hshn, hpost⟩, hRc⟩
    replace hRc := RF.one.1 hRc
    have hl3 : w3.heap[w.heap.size + 1]? = some (.loop { rec .ready none with state := .busy }) := (hRc.below.block _ (by simp [World.putObj]; exact hlW) (hnl rfl hl)).trans (World.putObj_heap_same hlW)
    have fin : ∀ (jump : Option Code), (Instr.endRound (w.heap.size + 1) jump).run P w3 = .ok (.bool jump.isNone) (w3.putObj (w.heap.size + 1) (.loop (rec (if jump.isNone then .ready else .done) jump))) ∧
        (SameW W (w3.putObj (w.heap.size + 1) (.loop (rec (if jump.isNone then .ready else .done) jump))) ∧ (Glob W → Glob (w3.putObj (w.heap.size + 1) (.loop (rec (if jump.isNone then .ready else .done) jump)))) ∧ ∃ K', (∀ b, K b → K' b) ∧ (∀ b, K' b → K b ∨ okA b ∨ W.heap.size ≤ b) ∧ (∀ b, K' b → b < (w3.putObj (w.heap.size + 1) (.loop (rec (if jump.isNone then .ready else .done) jump))).heap.size) ∧
          (∀ b, b < W.heap.size → ((okOf (kx w0 ok nt) φ s b ∧ b < w.heap.size) ∨ ¬ K b) → ¬ d.shows args b → (w3.putObj (w.heap.size + 1) (.loop (rec (if jump.isNone then .ready else .done) jump))).heap[b]? = W.heap[b]?) ∧
          (∀ ty cells n sz g cap, d = .sl ty cells n sz → args = [.slice (some ⟨g, 0, none⟩) n cap] → BlkAt (fun _ => False) (w3.putObj (w.heap.size + 1) (.loop (rec (if jump.isNone then .ready else .done) jump))) (g, cap * sz) ⟨ty, cells⟩) ∧
          RK (kx w0 ok nt) K' (uns t) φ3 a (w3.putObj (w.heap.size + 1) (.loop (rec (if jump.isNone then .ready else .done) jump))) ∧ (∀ b, named (uns t) φ3 b → ¬ (okOf (kx w0 ok nt) φ s b ∧ b < w.heap.size)) ∧ (w3.putObj (w.heap.size + 1) (.loop (rec (if jump.isNone then .ready else .done) jump))).heap[w.heap.size + 1]? = some (.loop (rec (if jump.isNone then .ready else .done) jump)) ∧
          (w3.putObj (w.heap.size + 1) (.loop (rec (if jump.isNone then .ready else .done) jump))).heap[w.heap.size]? = some (.deferred (some [])) ∧ K' (w.heap.size + 1) ∧ K' w.heap.size) := fun jump => by
      have hend := run_endRound (P := P) jump hl3
      have hrun : (Instr.endRound (w.heap.size + 1) jump).run P w3 = .ok (.bool jump.isNone) (w3.putObj (w.heap.size + 1) (.loop (rec (if jump.isNone then .ready else .done) jump))) := by
        rw [hrec] at hend ⊢; exact hend
      obtain ⟨q1, q2, q3, q4⟩ := round_RK (pin := pin) (n := n) (sz := sz) (cap := cap) hrk hKlt hφ hM hY hA1 hA2 hg1 hg2 (.loop { rec .ready none with state := .busy }) (.loop (rec (if jump.isNone then .ready else .done) jump)) hl (by omega) hl3 hRc (hsh t hshn) hYd
      have hs3 : SameW W w3 := (SameW.putObj W _ _).trans hRc.below.same
      have hs4 : SameW W (w3.putObj (w.heap.size + 1) (.loop (rec (if jump.isNone then .ready else .done) jump))) := hs3.trans (SameW.putObj w3 _ _)
      refine ⟨hrun, hs4, fun _ => hRc.below.glob.putLoop hl3 _, _, fun b hb => .inl hb, fun b hb => ?_, fun b hb => ?_, fun b hb1 hb2 hb3 => ?_, fun ty cells n' sz' g' cap' e1 e2 => ?_, q1, fun b hb => ?_, World.putObj_heap_same (Array.getElem?_eq_some_iff.1 hl3).1, ?_, .inl hKl, .inl hKD⟩
      · rcases hb with hb | hb | hb
        · exact .inl hb
        · exact .inr (.inl hb)
        · exact .inr (.inr hb.1)
      · rcases hb with hb | hb | hb
        · exact Nat.lt_of_lt_of_le (hKlt b hb) hs4.size
        · exact Nat.lt_of_lt_of_le (hA1 b hb).1 hs4.size
        · exact hb.2
      · refine q3 b hb1 ?_ ?_ fun hn e => hb3 (e ▸ hshow hn)
        · rintro rfl
          rcases hb2 with hb2 | hb2
          · omega
          · exact hb2 hKl
        · intro hn
          rcases hb2 with hb2 | hb2
          · exact hnf b hn hb2
          · obtain ⟨nm, hnm, e⟩ := hn
            exact hb2 (e ▸ hrk.kn nm hnm)
      · obtain ⟨z1, z2, z3⟩ := hslv ty cells n' sz' g' cap' e1 e2
        subst e1
        have hb := hRc.mem YN ⟨ty, cells⟩ hshn.1
        rw [q4 z2, z1] at hb
        obtain ⟨vs, ex, y1, y2, y3, y4⟩ := hb
        refine ⟨vs, ex, (World.putObj_heap_other ?_).trans y1, y2, y3, repL_flat cells vs z3 y4⟩
        intro e
        have e : g' = w.heap.size + 1 := e
        rw [e] at y1
        rw [hl3] at y1; cases y1
      · obtain ⟨nm, hnm, e⟩ := hb
        rcases q2 nm hnm with h5 | h5
        · exact e ▸ hnf _ h5
        · intro h6
          have := hKlt _ hKD
          omega
      · refine (q3 w.heap.size (hKlt _ hKD) (by omega) ?_ ?_).trans hD
        · rintro ⟨nm, hnm, e⟩
          obtain ⟨blk, hblk⟩ := Option.ne_none_iff_exists'.1 hnm
          obtain ⟨vs, ex, hh, _⟩ := hrk.mem nm blk hblk
          rw [e, hD] at hh; cases hh
        · intro hn e; exact hYd hn _ (e ▸ hD)
    cases e with
    | normal =>
      obtain ⟨h1, h2, h2g, K', p1, p2, p3, p4, p5, p6, p7, p8, p9, p10, p11⟩ := fin none
      obtain ⟨y, hIy, hle⟩ := hpost
      refine ⟨_, _, h1, h2, h2g, K', p1, p2, p3, p4, p5, .inl ⟨rfl, y, φ3, hIy, p6.weaken hle, fun b ⟨nm, hnm, e⟩ => p7 b ⟨nm, ?_, e⟩, p8, p9, p10, p11⟩⟩
      cases hb : (st (k + 1) y).mem nm with
      | none => exact absurd hb hnm
      | some blk => rw [hle.mem nm blk hb]; simp
    | ret =>
      obtain ⟨h1, h2, h2g, K', p1, p2, p3, p4, p5, p6, p7, p8, p9, p10, p11⟩ := fin (some .ret)
      exact ⟨_, _, h1, h2, h2g, K', p1, p2, p3, p4, p5, .inr ⟨rfl, .ret, uns t, φ3, p6, p8, p9, p10, p11, .inl ⟨rfl, hpost⟩⟩⟩
    | exit id =>
      obtain ⟨h1, h2, h2g, K', p1, p2, p3, p4, p5, p6, p7, p8, p9, p10, p11⟩ := fin (some (.exit id))
      exact ⟨_, _, h1, h2, h2g, K', p1, p2, p3, p4, p5, .inr ⟨rfl, .exit id, uns t, φ3, p6, p8, p9, p10, p11, .inr (.inl ⟨id, rfl, hpost⟩)⟩⟩
    | goto l' =>
      obtain ⟨h1, h2, h2g, K', p1, p2, p3, p4, p5, p6, p7, p8, p9, p10, p11⟩ := fin (some (.goto l'))
      exact ⟨_, _, h1, h2, h2g, K', p1, p2, p3, p4, p5, .inr ⟨rfl, .goto l', uns t, φ3, p6, p8, p9, p10, p11, .inr (.inr ⟨l', rfl, hpost⟩)⟩⟩
    | panic ch => exact hpost.elim
    | outgrown => exact hpost.elim
  · -- the names at the entry
    rintro b ⟨nm, hnm, e⟩ ⟨hb, hlt⟩
    have hn2 : s.mem nm ≠ none := by
      cases hb2 : (st 0 x0).mem nm with
      | none => exact absurd hb2 hnm
      | some blk => rw [h0.mem nm blk hb2]; simp
    rcases hb with hb | hb
    · obtain ⟨blk, hblk⟩ := Option.ne_none_iff_exists'.1 hn2
      rcases hR.own nm blk hblk with h5 | h5
      · have h6 : w0.heap.size ≤ (φ nm).1 := h5
        have h7 : b < w0.heap.size := hb.1
        omega
      · exact h5
    · exact hb.2 nm hn2 e⟩

end Go.Proofs.YtfcfmpdpjmbcnaaGreatDoor

/- Ranges over functions: the iterator's side. Nothing of the program. -/
namespace Go.Proofs.YtfcfmpdpjmbcnaaGreatDoor
open Go.RowKit

def J2 (J Jx : Ghost) : Ghost := fun m K W => (m % 2 = 0 ∧ J (m / 2) K W) ∨ (m % 2 = 1 ∧ Jx (m / 2) K W)
theorem Stable.J2 {J Jx : Ghost} (h : Stable J) (h2 : Stable Jx) : Stable (Go.Proofs.YtfcfmpdpjmbcnaaGreatDoor.J2 J Jx) := fun k K w w' hj hs hb => hj.imp (fun ⟨a, b⟩ => ⟨a, h _ _ _ _ b hs hb⟩) (fun ⟨a, b⟩ => ⟨a, h2 _ _ _ _ b hs hb⟩)
theorem J2.even {J Jx : Ghost} {k : Nat} {K : Nat → Prop} {W : World} : J2 J Jx (2 * k) K W ↔ J k K W := by
  have h1 : 2 * k % 2 = 0 := by omega
  have h2 : 2 * k / 2 = k := by omega
  unfold J2
  rw [h1, h2]
  simp
theorem J2.odd {J Jx : Ghost} {k : Nat} {K : Nat → Prop} {W : World} : J2 J Jx (2 * k + 1) K W ↔ Jx k K W := by
  have h1 : (2 * k + 1) % 2 = 1 := by omega
  have h2 : (2 * k + 1) / 2 = k := by omega
  unfold J2
  rw [h1, h2]
  simp
def cntV (k : Nat) : AV := .d (.val (.int .i64 ((2 * k : Nat) : Int)))
def stpV (k : Nat) : AV := .d (.val (.int .i64 ((2 * k + 1 : Nat) : Int)))

def itJ (J : Ghost) (fz0 : Nat → Prop) (w1 : World) (ok1 ex1 : Nat → Prop) (k : Nat) (K : Nat → Prop) (W : World) : Prop := J k K W ∧ ∀ b, K b → b < w1.heap.size ∧ ¬ ex1 b ∧ (ok1 b → fz0 b)
@[reducible] def itc (J : Ghost) (sJ : Stable J) (fz0 : Nat → Prop) (nt : Nat) (w1 : World) (ok1 ex1 : Nat → Prop) : Ctx :=
  ⟨w1, ok1, nt, none, true, ex1, fun _ => undef, itJ J fz0 w1 ok1 ex1, fun k K w w' h h1 h2 h3 h4 h5 => ⟨sJ k K w w' h.1 ⟨h1, h2, h3, h4⟩ h5, h.2⟩⟩
@[reducible] def itF (w0 : World) (J : Ghost) (sJ : Stable J) (fz0 : Nat → Prop) (nt : Nat) : Fam := ⟨fun c => ∃ w1 ok1 ex1, c = itc J sJ fz0 nt w1 ok1 ex1 ∧ SameW w0 w1, nt, none, by rintro c ⟨_, _, _, rfl, _⟩; exact ⟨rfl, rfl⟩⟩

theorem rebase {J : Ghost} {sJ : Stable J} {fz0 : Nat → Prop} {nt : Nat} {w1 W W' : World} {ok1 ex1 : Nat → Prop} {t : AS} {φ : Nat → Nat × Nat} {a : Act} (h : R (itc J sJ fz0 nt w1 ok1 ex1) t φ a W) {K K' : Nat → Prop}
    (hK1 : ∀ b, K b → b < w1.heap.size ∧ ¬ ex1 b ∧ (ok1 b → fz0 b)) (hK2 : ∀ nm, t.mem nm ≠ none → ¬ K (φ nm).1) (hs : SameW W W') (hG : Glob W → Glob W') (hKK : ∀ b, K' b → K b ∨ W.heap.size ≤ b) (hKlt : ∀ b, K' b → b < W'.heap.size)
    (hkeep : ∀ b, b < W.heap.size → (fz0 b ∨ ¬ K b) → (∀ nm, t.mem nm ≠ none → (φ nm).1 ≠ b) → W'.heap[b]? = W.heap[b]?)
    (hmem : ∀ nm blk, t.mem nm = some blk → W'.heap[(φ nm).1]? = W.heap[(φ nm).1]? ∨ BlkAt (fun _ => False) W' (φ nm) blk) {m : Nat} (hJ : J m K' W') :
    ∃ ok2 ex2, R (itc J sJ fz0 nt W' ok2 ex2) ⟨upd t.fr VG (.d (.val (.int .i64 (m : Int)))), t.mem⟩ φ a W' := by
  have hun : ∀ b, okOf (itc J sJ fz0 nt w1 ok1 ex1) φ t b → ∀ nm, t.mem nm ≠ none → (φ nm).1 ≠ b := fun b hb nm hn e => by
    rcases hb with ⟨h1, _, h3⟩ | ⟨_, h2⟩
    · obtain ⟨blk, hblk⟩ := Option.ne_none_iff_exists'.1 hn
      rcases h.own nm blk hblk with h4 | h4
      · rw [e] at h4; exact absurd h1 (Nat.not_lt.2 h4)
      · rw [e] at h4; exact h3 h4
    · exact h2 nm hn e
  have hfz : ∀ b, okOf (itc J sJ fz0 nt w1 ok1 ex1) φ t b → fz0 b ∨ ¬ K b := fun b hb => by
    by_cases hk : K b
    · obtain ⟨k1, k2, k3⟩ := hK1 b hk
      rcases hb with ⟨_, h2, _⟩ | ⟨h1 | h1, _⟩
      · exact .inl (k3 h2)
      · exact absurd k1 (Nat.not_lt.2 h1)
      · exact absurd h1 k2
    · exact .inr hk
  have hd0 : a.defers = [] := by
    obtain ⟨Ds, h1, _, h3⟩ := h.defers
    cases Ds with
    | nil => exact h1
    | cons D Ds => have := (h3 D (by simp)).1.1; cases this
  obtain ⟨c2, hc2⟩ : ∃ c2, c2 = itc J sJ fz0 nt W' (fun b => okOf (itc J sJ fz0 nt w1 ok1 ex1) φ t b ∧ b < W.heap.size) (named t φ) := ⟨_, rfl⟩
  have hk : Keeps (okOf (itc J sJ fz0 nt w1 ok1 ex1) φ t) W (okOf c2 φ ⟨upd t.fr VG (.d (.val (.int .i64 (m : Int)))), t.mem⟩) W' := by
    refine ⟨fun b hb hlt => ?_, hs.size, fun b o u hok hlt hc => (World.cell?_of_block (a := ⟨b, o, none⟩) (hkeep b hlt (hfz b hok) (hun b hok))).trans hc⟩
    rw [hc2]
    exact .inl ⟨Nat.lt_of_lt_of_le hlt hs.size, ⟨hb, hlt⟩, fun ⟨nm, hn, e⟩ => hun b hb nm hn e⟩
  refine ⟨fun b => okOf (itc J sJ fz0 nt w1 ok1 ex1) φ t b ∧ b < W.heap.size, named t φ, ?_⟩
  rw [← hc2]
  have e1 : c2.w0 = W' := by rw [hc2]
  have e2 : c2.ex = named t φ := by rw [hc2]
  have e3 : c2.nt = nt := by rw [hc2]
  have e4 : c2.gv = fun _ => undef := by rw [hc2]
  have hG1 : Glob W' := hG h.below.glob
  have hG2 : ∀ b, GBlk b → ¬ named t φ b := fun b hb ⟨nm, hn, e⟩ => by
    obtain ⟨blk, hblk⟩ := Option.ne_none_iff_exists'.1 hn
    rcases h.own nm blk hblk with h4 | h4
    · rw [e] at h4; exact absurd (h.below.gl.1.lt hb) (Nat.not_lt.2 h4)
    · rw [e] at h4; exact h.below.gl.2 b hb h4
  refine ⟨by rw [e1, e2]; exact BelowX.refl hG1 hG2, ⟨[], hd0, List.nodup_nil, fun D hD => by cases hD⟩, by rw [e3]; exact h.size, by rw [e3]; exact h.ntv, fun i hi => ?_, fun nm blk hn => .inr (by rw [e2]; exact ⟨nm, by rw [show t.mem nm = some blk from hn]; simp, rfl⟩), fun nm blk hn => ?_, h.inj, fun k hk => ?_⟩
  · show (upd t.fr VG _ i).rep _ φ W' _
    rw [upd_ne _ _ hi]
    have h1 := AV.rep_keeps hk (h.fr i hi)
    have h2 : slotAt c2 a φ i = slotAt (itc J sJ fz0 nt w1 ok1 ex1) a φ i := by unfold slotAt; rw [e4]
    rw [h2]; exact h1
  · rcases hmem nm blk hn with h1 | h1
    · exact (h.mem nm blk hn).keeps hk h1
    · exact h1.keeps (Keeps.wide fun b hb _ => hb.elim) rfl
  · have hk : upd t.fr VG (.d (.val (.int .i64 (m : Int)))) VG = .d (.val (.int .i64 (k : Int))) := hk
    rw [upd_same] at hk
    have hkm : k = m := by
      injection hk with hk; injection hk with hk; injection hk with _ hk
      omega
    subst hkm
    have hnK : ∀ b, named t φ b → ¬ K' b := fun b ⟨nm, hn, e⟩ hb => by
      rcases hKK b hb with h1 | h1
      · exact hK2 nm hn (e ▸ h1)
      · have := h.lt hn; omega
    refine ⟨K', ?_, fun nm hn hb => hnK _ ⟨nm, hn, rfl⟩ hb, hKlt, fun D hD => by rw [hd0] at hD; cases hD⟩
    rw [hc2]
    refine ⟨hJ, fun b hb => ⟨hKlt b hb, fun hn => hnK b hn hb, fun hok => ?_⟩⟩
    rcases hKK b hb with h1 | h1
    · exact (hfz b hok.1).resolve_right fun h2 => h2 h1
    · exact absurd hok.2 (Nat.not_lt.2 h1)

structure Itr (P : Program) (c : Fam) (l : Nat) (xs : List YA) (fin : Bool) : Prop where
  run : ∃ w0 J Jx sJ fz0 nt, c = itF w0 (J2 J Jx) sJ fz0 nt ∧ (fin = false → ∀ K W, ¬ J xs.length K W) ∧
    (∀ k K W d args (okA : Nat → Prop), xs[k]? = some d → J k K W → (∀ b, K b → b < W.heap.size) → d.rep K okA W args → (∀ b, okA b → b < W.heap.size ∧ (fz0 b ∨ ¬ K b)) →
      YieldAt Fence.wide 0 P l args.toArray W fun e W' => SameW W W' ∧ (Glob W → Glob W') ∧ ∃ K', (∀ b, K b → K' b) ∧ (∀ b, K' b → K b ∨ okA b ∨ W.heap.size ≤ b) ∧ (∀ b, K' b → b < W'.heap.size) ∧ (∀ b, b < W.heap.size → (fz0 b ∨ ¬ K b) → ¬ d.shows args b → W'.heap[b]? = W.heap[b]?) ∧
        (∀ ty cells n sz g cap, d = .sl ty cells n sz → args = [.slice (some ⟨g, 0, none⟩) n cap] → BlkAt (fun _ => False) W' (g, cap * sz) ⟨ty, cells⟩) ∧
        ((e = .returned (.bool true) ∧ J (k + 1) K' W') ∨ (e = .returned (.bool false) ∧ Jx (k + 1) K' W')))

theorem awp_over {P : Program} {c : Fam} {l : Nat} {xs : List YA} {code : Code} {Q : Exit → AS → Prop} {s : AS} (hI : Itr P c l xs false) (hk : s.fr VG = cntV xs.length) : AWp P c code Q s := ⟨fun φ a w ⟨c', hG, hR⟩ => by
  obtain ⟨w0, J, Jx, sJ, fz0, nt, rfl, h1, _⟩ := hI.run
  obtain ⟨w1, ok1, ex1, rfl, _⟩ := hG
  obtain ⟨K, h2, _⟩ := hR.gh _ hk
  exact absurd (J2.even.1 h2.1) (h1 rfl K w)⟩

inductive YV (t : AS) (args : List Operand) : YA → Prop
  | gv {ds} (h : viewD t args = some ds) (hf : DV.flatL ds = true) : YV t args (.gv ds)
  | sl {x nm n sz ty cells} (ha : args = [x]) (h : t.ev x = .lsl nm 0 n sz) (hm : t.mem nm = some ⟨ty, cells⟩) (hf : DV.flatL cells = true) : YV t args (.sl ty cells n sz)

section
variable {P : Program} {ops : Array Oper} {Q : Exit → Act → World → Prop} {c : Ctx}
theorem runT_on : ∀ (l : List Oper) (is is' : List Nat) (s : AS) (K : List Rec → AS → Prop), (∀ k, k < l.length → is[k]?.bind (ops[·]?) = l[k]?) → is.length = l.length → (∀ o ∈ l, opOk c o) →
    RunT P ops l s K → ∀ (φ : Nat → Nat × Nat) (a : Act) (w : World), R c s φ a w → (∀ rs t φ' a' w', K rs t → R c t φ' a' w' → wpOpsIn (fz c.rd) 0 P ops Q is' a' w') → wpOpsIn (fz c.rd) 0 P ops Q (is ++ is') a w := by
  intro l
  induction l with
  | nil =>
    intro is is' s K hl hlen hd hrun φ a w hR hQ
    have : is = [] := List.eq_nil_of_length_eq_zero hlen
    subst this
    exact hQ [] s φ a w hrun hR
  | cons o l ih =>
    intro is is' s K hl hlen hd hrun φ a w hR hQ
    cases is with
    | nil => simp at hlen
    | cons i is =>
      have hi : ops[i]? = some o := by simpa using hl 0 (by simp)
      rw [List.cons_append, wpOpsIn_cons]
      obtain ⟨e, rd, hs, hr⟩ := hrun
      refine hs.wpOp hi hR (fun x _ => ge_refl _) (fun t b _ => ge_refl _) (fun n _ => rfl) (Lk.refl _) (hd o (by simp)) fun φ' a' w' hR' => ?_
      exact ih is is' _ _ (fun k hk => by simpa using hl (k + 1) (by simp; omega)) (by simpa using hlen) (fun o ho => hd o (by simp [ho])) hr φ' a' w' hR' fun rs t φ' a' w' hk h => hQ (⟨e, rd, tchOf o s⟩ :: rs) t φ' a' w' hk h
end

theorem run_callYield {P : Program} {l : Nat} {dst : Option Tmp} {y : Operand} {args : Array Operand} {ats : Array TypeId} {ty : TypeId} {ps : String} {af : Array Edge} {gd : Option (Nat × Bool)} {a : Act} {w : World} (hy : a.eval y = .func (.yield l) #[] #[]) :
    (execOp a.eval ⟨dst, .call ⟨.value y, args, ats⟩, ty, ps, af, gd⟩).run P w = (Instr.yield l (args.map a.eval)).run P w := by
  simp [execOp, resolve, Deferred.ofValue, hy, invoke]

theorem yv_rep {c : Ctx} {t : AS} {φ : Nat → Nat × Nat} {a : Act} {W : World} {args : List Operand} {d : YA} {K : Nat → Prop} (h : YV t args d) (hR : R c t φ a W) (hK : ∀ nm, t.mem nm ≠ none → ¬ K (φ nm).1) : d.rep K (fun _ => False) W (args.map a.eval) := by
  cases h with
  | gv h hf => exact repL_flat _ _ hf (viewD_rep hR args _ (fun _ _ => ge_refl _) h)
  | @sl x nm n sz ty cells ha h hm hf =>
    subst ha
    have h1 := hR.ev x
    rw [h] at h1
    obtain ⟨cap, h2, h3, h4, h5⟩ := h1
    obtain ⟨vs, ex, b1, b2, b3, b4⟩ := hR.mem nm _ hm
    refine ⟨(φ nm).1, cap, by rw [← h2]; rfl, h3, h4, hK nm (by rw [hm]; simp), fun h => h, hf, vs, ex, b1, ?_, b3, repL_flat cells vs hf b4⟩
    show _ = cap * sz
    omega
theorem yv_shows {c : Ctx} {t : AS} {φ : Nat → Nat × Nat} {a : Act} {W : World} {args : List Operand} {d : YA} (h : YV t args d) (hR : R c t φ a W) {b : Nat} (hs : d.shows (args.map a.eval) b) :
    ∃ nm n sz cap ty cells, d = .sl ty cells n sz ∧ t.mem nm = some ⟨ty, cells⟩ ∧ (φ nm).1 = b ∧ (φ nm).2 = cap * sz ∧ args.map a.eval = [.slice (some ⟨(φ nm).1, 0, none⟩) n cap] := by
  cases h with
  | gv h hf => exact hs.elim
  | @sl x nm n sz ty cells ha h hm hf =>
    subst ha
    obtain ⟨cap', hs⟩ := hs
    have h1 := hR.ev x
    rw [h] at h1
    obtain ⟨cap, h2, h3, h4, h5⟩ := h1
    have h2 : a.eval x = .slice (some ⟨(φ nm).1, 0, none⟩) n cap := h2
    have hs : [a.eval x] = [.slice (some ⟨b, 0, none⟩) n cap'] := hs
    rw [h2] at hs
    injection hs with hs _
    obtain ⟨e1, e2⟩ := sl_inj hs
    refine ⟨nm, n, sz, cap, ty, cells, rfl, hm, e1, by omega, ?_⟩
    show [a.eval x] = _
    rw [h2]

theorem awp_yield {P : Program} {c : Fam} {lN : Nat} {xs : List YA} {fin : Bool} {Q : Exit → AS → Prop} {s : AS} (hI : Itr P c lN xs fin) {id : Nat} {l pre post : List Oper} {dst : Tmp} {y : Operand} {args : Array Operand} {ats : Array TypeId} {ty : TypeId} {ps : String} {af : Array Edge}
    (hl : l = pre ++ ⟨some dst, .call ⟨.value y, args, ats⟩, ty, ps, af, none⟩ :: post) (hd : dstsB c.nt l = true) (k : Nat) (d : YA) (hx : xs[k]? = some d)
    (h : RunT P l.toArray pre s fun _ t => t.ev y = .d (.val (.func (.yield lN) #[] #[])) ∧ YV t args.toList d ∧ t.fr VG = cntV k ∧
      RunT P l.toArray post ⟨upd (upd t.fr VG (cntV (k + 1))) dst (.d (.val (.bool true))), t.mem⟩ (fun _ u => Q .normal u) ∧
      RunT P l.toArray post ⟨upd (upd t.fr VG (stpV (k + 1))) dst (.d (.val (.bool false))), t.mem⟩ (fun _ u => Q .normal u)) : AWp P c (.region id l.toArray false) Q s := ⟨fun φ a w ⟨c', hG, hR⟩ => by
  obtain ⟨w0, J, Jx, sJ, fz0, nt, rfl, _, hY⟩ := hI.run
  obtain ⟨w1, ok1, ex1, rfl, hsw⟩ := hG
  have hds : ∀ o ∈ l, opOk (itc (J2 J Jx) sJ fz0 nt w1 ok1 ex1) o := dstsB_spec l hd
  have hget : ∀ i : Nat, l.toArray[i]? = l[i]? := fun i => List.getElem?_toArray
  have hr : List.range l.toArray.size = List.range pre.length ++ pre.length :: (List.range' (pre.length + 1) post.length) := by
    rw [hl]
    simp only [List.size_toArray, List.length_append, List.length_cons, List.range_eq_range']
    rw [show pre.length + (post.length + 1) = pre.length + (1 + post.length) by omega, ← List.range'_append_1, ← List.range'_append_1]
    simp
  refine wpIn_region ?_
  rw [hr]
  refine runT_on (c := itc (J2 J Jx) sJ fz0 nt w1 ok1 ex1) pre (List.range pre.length) _ s _ (fun k hk => ?_) (by simp) (fun o ho => hds o (by rw [hl]; simp [ho])) h φ a w hR ?_
  · rw [List.getElem?_range hk, Option.bind_some]
    exact (hget k).trans (by rw [hl]; exact List.getElem?_append_left hk)
  rintro rs t φ' a' w' ⟨h1, h2, h3, h4, h5⟩ hR'
  have hi : l.toArray[pre.length]? = some ⟨some dst, .call ⟨.value y, args, ats⟩, ty, ps, af, none⟩ := (hget _).trans (by rw [hl]; exact (List.getElem?_append_right (Nat.le_refl _)).trans (by rw [Nat.sub_self]; rfl))
  have hpo : ∀ k, k < post.length → (List.range' (pre.length + 1) post.length)[k]?.bind (l.toArray[·]?) = post[k]? := fun k hk => by
    rw [List.getElem?_range' (by omega), Option.bind_some]
    refine (hget _).trans ?_
    rw [hl]
    refine (List.getElem?_append_right (by omega)).trans ?_
    rw [show pre.length + 1 + 1 * k - pre.length = k + 1 by omega]
    rfl
  have hdst : dst < nt := (hds ⟨some dst, .call ⟨.value y, args, ats⟩, ty, ps, af, none⟩ (by rw [hl]; simp)).1 dst rfl
  rw [wpOpsIn_cons]
  unfold Go.wpOpIn
  simp only [hi]
  rw [if_pos (by simp [Region.wanted])]
  refine ⟨fun _ _ => trivial, ?_⟩
  have hy : a'.eval y = .func (.yield lN) #[] #[] := by
    have := hR'.ev y
    rw [h1] at this
    exact (rep_val (ok := okOf (itc (J2 J Jx) sJ fz0 nt w1 ok1 ex1) φ' t) (w := w')).1 this
  obtain ⟨K, ⟨hJ, hK1⟩, hK2, hK3, hK4⟩ := hR'.gh _ h3
  have hrep := yv_rep h2 hR' hK2
  obtain ⟨fn, tmps, asg, bd, hrun, hround⟩ := hY k K w' d (args.toList.map a'.eval) (fun _ => False) hx (J2.even.1 hJ) hK3 hrep (fun _ h => h.elim)
  have hargs : (args.toList.map a'.eval).toArray = args.map a'.eval := by apply Array.ext'; simp
  rw [hargs] at hrun
  rw [Oper.semAt_eq _ _ _ (fun c h => by cases h), run_callYield hy, hrun, Oper.uponIn_round]
  refine ⟨fun h => by simp [fz, Fence.wide] at h, ?_⟩
  refine RoundIn.mono hround ?_
  rintro e W' ⟨hs, hgl, K', k1, k2, k3, k4, k5, hc⟩
  have hkeep : ∀ b, b < w'.heap.size → (fz0 b ∨ ¬ K b) → (∀ nm, t.mem nm ≠ none → (φ' nm).1 ≠ b) → W'.heap[b]? = w'.heap[b]? := fun b hb hc hnn => k4 b hb hc fun hsh => by
    obtain ⟨nm, n, sz, cap, ty, cells, _, hm, e, _⟩ := yv_shows h2 hR' hsh
    exact hnn nm (by rw [hm]; simp) e
  have hmem : ∀ nm blk, t.mem nm = some blk → W'.heap[(φ' nm).1]? = w'.heap[(φ' nm).1]? ∨ BlkAt (fun _ => False) W' (φ' nm) blk := fun nm blk hn => by
    by_cases hsh : d.shows (args.toList.map a'.eval) (φ' nm).1
    · obtain ⟨nm2, n, sz, cap, ty, cells, hd2, hm, e, e2, hag⟩ := yv_shows h2 hR' hsh
      by_cases en : nm2 = nm
      · subst en
        rw [hm] at hn; cases hn
        refine .inr ?_
        have := k5 ty cells n sz _ cap hd2 hag
        rw [← e2] at this
        exact this
      · exact absurd e (hR'.inj nm2 nm (by rw [hm]; simp) (by rw [hn]; simp) en)
    · exact .inl (k4 _ (hR'.lt (by rw [hn]; simp)) (.inr (hK2 nm (by rw [hn]; simp))) hsh)
  have hKK : ∀ b, K' b → K b ∨ w'.heap.size ≤ b := fun b hb => (k2 b hb).imp (fun h => h) fun h => h.resolve_left fun h => h
  have hsw' : SameW w0 W' := (hsw.trans hR'.below.same).trans hs
  have fin : ∀ (m : Nat) (b : Bool), J2 J Jx m K' W' → RunT P l.toArray post ⟨upd (upd t.fr VG (.d (.val (.int .i64 (m : Int))))) dst (.d (.val (.bool b))), t.mem⟩ (fun _ u => Q .normal u) →
      wpOpsIn (fz none) 0 P l.toArray (fun e a w => ∃ t φ, Q e t ∧ RF (itF w0 (J2 J Jx) sJ fz0 nt) t φ a w) (List.range' (pre.length + 1) post.length) (a'.put (some dst) (.bool b)) W' := fun m b hj hrn => by
    obtain ⟨ok2, ex2, hR2⟩ := rebase hR' hK1 hK2 hs hgl hKK k3 hkeep hmem hj
    have hR3 := hR2.put (dst := some dst) (r := .d (.val (.bool b))) (v := .bool b) (fun x hx => by cases hx; exact hdst) ((rep_val (ok := okOf (itc (J2 J Jx) sJ fz0 nt W' ok2 ex2) φ' ⟨upd t.fr VG (.d (.val (.int .i64 (m : Int)))), t.mem⟩) (w := W')).2 rfl)
    exact runT_wp (c := itc (J2 J Jx) sJ fz0 nt W' ok2 ex2) post _ _ _ hpo (by simp) (fun o ho => hds o (by rw [hl]; simp [ho])) hrn φ' _ W' hR3 fun rs u φ2 a2 w2 hq hR4 => ⟨u, φ2, hq, _, ⟨W', ok2, ex2, rfl, hsw'⟩, hR4⟩
  rcases hc with ⟨rfl, hj⟩ | ⟨rfl, hj⟩
  · exact fin _ true (J2.even.2 hj) h4
  · exact fin _ false (J2.odd.2 hj) h5⟩

def YRet (xs : List YA) (fin : Bool) : Exit → AS → Prop
  | .normal, t | .ret, t => (fin = true ∧ t.fr VG = cntV xs.length) ∨ ∃ k, t.fr VG = stpV k
  | _, _ => False
@[reducible] def entryY (bs : List DV) (l : Nat) (caps : List DV) : AS := ⟨upd (entry (bs ++ .val (.func (.yield l) #[] #[]) :: caps)).fr VG (cntV 0), fun _ => none⟩

theorem ay_body {P : Program} {gf : FuncId} {fn : Func} {code : Code} {bs caps : List DV} {xs : List YA} {fin : Bool} (hf : P.funcs[gf]? = some fn) (hb : fn.body = some code) (hres : fn.results = #[])
    (hn : (Nat.ble (bs ++ DV.any :: caps).length fn.ntmps && Nat.ble fn.ntmps VG) = true) (h : ∀ w0 J sJ fz0 l, Itr P (itF w0 J sJ fz0 fn.ntmps) l xs fin → AWp P (itF w0 J sJ fz0 fn.ntmps) code (YRet xs fin) (entryY bs l caps)) : AY P gf bs caps xs fin := by
  intro fz0 w vs us l J Jx hbs hcaps hnv hfz sJ sJx hY K0 hJ0 hK0 hgi
  have hr : DV.repL fz0 w (bs ++ .val (.func (.yield l) #[] #[]) :: caps) (vs ++ .func (.yield l) #[] #[] :: us) := repL_append hbs (repL_cons'.2 ⟨rep_val.2 rfl, hcaps⟩)
  have hnn : (Nat.ble (bs ++ DV.val (.func (.yield l) #[] #[]) :: caps).length fn.ntmps && Nat.ble fn.ntmps VG) = true := by
    rw [← hn]; simp
  refine callsIn_wide.1 (callsIn_of_wp_marks (F := Fence.wide) (n := 0) hf hb trivial ?_)
  have hR0 : R (itc (J2 J Jx) (sJ.J2 sJx) fz0 fn.ntmps w fz0 (fun _ => False)) (entry (bs ++ .val (.func (.yield l) #[] #[]) :: caps)) (fun _ => (0, 0)) { tmps := (vs ++ .func (.yield l) #[] #[] :: us).toArray ++ Array.replicate (fn.ntmps - (vs ++ .func (.yield l) #[] #[] :: us).toArray.size) undef, defers := [] } w :=
    entry_R rfl hnn (fun _ _ _ h => h) hr (fun _ => rfl) hgi.is (fun _ _ h => h)
  have hR : R (itc (J2 J Jx) (sJ.J2 sJx) fz0 fn.ntmps w fz0 (fun _ => False)) (entryY bs l caps) (fun _ => (0, 0)) { tmps := (vs ++ .func (.yield l) #[] #[] :: us).toArray ++ Array.replicate (fn.ntmps - (vs ++ .func (.yield l) #[] #[] :: us).toArray.size) undef, defers := [] } w := by
    refine ⟨hR0.below, hR0.defers, hR0.size, hR0.ntv, fun i hi => ?_, hR0.own, hR0.mem, hR0.inj, fun k hk => ?_⟩
    · show AV.rep _ _ w (upd (entry (bs ++ .val (.func (.yield l) #[] #[]) :: caps)).fr VG (cntV 0) i) _
      rw [upd_ne _ _ hi]
      exact hR0.fr i hi
    · have hk : upd (entry (bs ++ .val (.func (.yield l) #[] #[]) :: caps)).fr VG (cntV 0) VG = .d (.val (.int .i64 (k : Int))) := hk
      rw [upd_same] at hk
      have hk0 : k = 2 * 0 := by
        unfold cntV at hk
        injection hk with hk; injection hk with hk; injection hk with _ hk
        omega
      subst hk0
      exact ⟨K0, ⟨J2.even.2 hJ0, fun b hb => ⟨(hK0 b).1 hb, fun h => h, fun h => h⟩⟩, fun nm hn => absurd rfl hn, fun b hb => (hK0 b).1 hb, fun D hD => by cases hD⟩
  have hitr : Itr P (itF w (J2 J Jx) (sJ.J2 sJx) fz0 fn.ntmps) l xs fin := ⟨w, J, Jx, sJ.J2 sJx, fz0, fn.ntmps, rfl, hnv, hY⟩
  refine wpIn_mono ((h _ _ _ _ l hitr).run _ _ _ ⟨_, ⟨w, fz0, fun _ => False, rfl, SameW.refl w⟩, hR⟩) ?_
  rintro e a w' ⟨t, φ, hq, c', ⟨w1, ok1, ex1, rfl, hsw⟩, hR'⟩
  have fin' : ((fin = true ∧ t.fr VG = cntV xs.length) ∨ ∃ k, t.fr VG = stpV k) → LeavesInM Fence.wide 0 P fn a.tmps (fun e w' => (∃ v, e = .returned v) ∧ SameW w w' ∧ ∃ K', (∀ b, K' b → b < w'.heap.size) ∧ (J xs.length K' w' ∨ ∃ k, Jx k K' w')) a.defers .returning w' := by
    intro hq
    refine hR'.leaves fun w2 hR2 => ?_
    refine ⟨.tuple #[], ?_, ⟨_, rfl⟩, hsw.trans hR2.below.same, ?_⟩
    · unfold results
      rw [hres]
      simp
    · rcases hq with ⟨_, hq⟩ | ⟨k, hq⟩
      · obtain ⟨K, h1, _, h3, _⟩ := hR2.gh _ hq
        exact ⟨K, h3, .inl (J2.even.1 h1.1)⟩
      · obtain ⟨K, h1, _, h3, _⟩ := hR2.gh _ hq
        exact ⟨K, h3, .inr ⟨k, J2.odd.1 h1.1⟩⟩
  cases e with
  | normal => exact fin' hq
  | ret => exact fin' hq
  | exit id => exact hq.elim
  | goto l => exact hq.elim
  | panic ch => exact hq.elim
  | outgrown => exact hq.elim

structure AWpL (P : Program) (c : Fam) (body : Code) (Q : Exit → AS → Prop) (s : AS) : Prop where
  run : ∀ φ a w, RF c s φ a w → ∀ (b : Frame) (k : List Item) (cs : List Frame), b.roundOf = (fz c.rd).round → (fz c.rd).fn b.fn → (fz c.rd).room (cs.length + 1 + 0) → ∃ e a' w', (∃ t φ, Q e t ∧ RF c t φ a' w') ∧ ArrivesIn (Machine.fenced P (fz c.rd)) P (lone (b.atR a (.code body :: .inLoop body :: k)) cs w) b k cs e a' w'
theorem awp_loopU {P : Program} {c : Fam} {Q : Exit → AS → Prop} {s : AS} {body : Code} (h : AWpL P c body Q s) : AWp P c (.loop body) Q s := ⟨fun φ a w hR b k cs hro hb hr => by
  obtain ⟨e, a', w', hq, harr⟩ := h.run φ a w hR b k cs hro hb hr
  exact ⟨e, a', w', hq, .of_steps (.one (fenced_calm hb hr rfl) stepR_loop) harr⟩⟩
theorem awpL_step {P : Program} {c : Fam} {Q : Exit → AS → Prop} {s : AS} {body : Code} (h : AWp P c body (ASeq (AWpL P c body Q) Q) s) : AWpL P c body Q s := ⟨fun φ a w hR b k cs hro hb hr => by
  obtain ⟨e, a₁, w₁, ⟨t, φ₁, hq, hR₁⟩, harr⟩ := h.run φ a w hR b (.inLoop body :: k) cs hro hb hr
  cases e with
  | normal =>
    obtain ⟨e₂, a₂, w₂, hq₂, harr₂⟩ := AWpL.run hq φ₁ a₁ w₁ hR₁ b k cs hro hb hr
    exact ⟨e₂, a₂, w₂, hq₂, .of_steps (StepsIn.trans harr (.one (fenced_calm hb hr rfl) stepR_inLoop)) harr₂⟩
  | exit id => exact ⟨_, a₁, w₁, ⟨t, φ₁, hq, hR₁⟩, .pass (x := .inLoop body) rfl (fun _ _ => .inl (by simp)) harr⟩
  | goto l => exact ⟨_, a₁, w₁, ⟨t, φ₁, hq, hR₁⟩, .pass (x := .inLoop body) rfl (fun _ _ => .inl (by simp)) harr⟩
  | ret => exact ⟨_, a₁, w₁, ⟨t, φ₁, hq, hR₁⟩, .pass (x := .inLoop body) rfl (fun _ _ => .inl (by simp)) harr⟩
  | panic ch => exact ⟨_, a₁, w₁, ⟨t, φ₁, hq, hR₁⟩, .pass (x := .inLoop body) rfl (fun _ _ => .inl (by simp)) harr⟩
  | outgrown => exact ⟨_, a₁, w₁, ⟨t, φ₁, hq, hR₁⟩, .pass (x := .inLoop body) rfl (fun _ _ => .inl (by simp)) harr⟩⟩
section
variable {P : Program} {s : AS} {ty : TypeId} {ps : String} {af : Array Edge} {dst : Option Tmp} {t t' : TypeId} {x y : Operand}
end

end Go.Proofs.YtfcfmpdpjmbcnaaGreatDoor
/- Merged: XMj XM7 XM8 XM9. -/
set_option linter.unusedVariables false
set_option linter.unusedSimpArgs false
/- Loops with two or three variables; what is known behind some parts of a text; regions by parts. Nothing of the program. -/
namespace Go.Proofs.YtfcfmpdpjmbcnaaGreatDoor
open Go.RowKit

section
variable {P : Program} {c : Fam} {Q : Exit → AS → Prop} {s : AS}
theorem awp_loopL2 {α β : Type} {body : Code} (sl : α → β → List (Nat × AV)) (ml : α → β → List (Nat × Blk)) (J : α → β → Prop) (μ : α → β → Nat) (x0 : α) (y0 : β) (hJ : J x0 y0) (h0 : leF s (sl x0 y0)) (h1 : leM s (ml x0 y0))
    (round : ∀ x y, J x y → AWp P c body (ASeq (fun t => ∃ x' y', J x' y' ∧ μ x' y' < μ x y ∧ leF t (sl x' y') ∧ leM t (ml x' y')) Q) ⟨frL (sl x y), memL (ml x y)⟩) : AWp P c (.loop body) Q s :=
  awp_loopL (fun x : α × β => sl x.1 x.2) (fun x => ml x.1 x.2) (fun x => J x.1 x.2) (fun x => μ x.1 x.2) (x0, y0) hJ h0 h1 fun ⟨x, y⟩ h => awp_mono (round x y h) fun e t h => by
    cases e with
    | normal => obtain ⟨x', y', h1, h2, h3, h4⟩ := h; exact ⟨(x', y'), h1, h2, h3, h4⟩
    | _ => exact h
theorem awp_loopL3 {α β γ : Type} {body : Code} (sl : α → β → γ → List (Nat × AV)) (ml : α → β → γ → List (Nat × Blk)) (J : α → β → γ → Prop) (μ : α → β → γ → Nat) (x0 : α) (y0 : β) (z0 : γ) (hJ : J x0 y0 z0) (h0 : leF s (sl x0 y0 z0)) (h1 : leM s (ml x0 y0 z0))
    (round : ∀ x y z, J x y z → AWp P c body (ASeq (fun t => ∃ x' y' z', J x' y' z' ∧ μ x' y' z' < μ x y z ∧ leF t (sl x' y' z') ∧ leM t (ml x' y' z')) Q) ⟨frL (sl x y z), memL (ml x y z)⟩) : AWp P c (.loop body) Q s :=
  awp_loopL (fun x : α × β × γ => sl x.1 x.2.1 x.2.2) (fun x => ml x.1 x.2.1 x.2.2) (fun x => J x.1 x.2.1 x.2.2) (fun x => μ x.1 x.2.1 x.2.2) (x0, y0, z0) hJ h0 h1 fun ⟨x, y, z⟩ h => awp_mono (round x y z h) fun e t h => by
    cases e with
    | normal => obtain ⟨x', y', z', h1, h2, h3, h4⟩ := h; exact ⟨(x', y', z'), h1, h2, h3, h4⟩
    | _ => exact h
end
section
variable {P : Program} {c : Fam} {Q : Exit → AS → Prop} {s : AS}
end


def TurnsE (c : Fam) (s : AS) {α : Type} (T : α → AS) : Prop := ∀ φ a w, RF c s φ a w → ∃ x φ', RF c (T x) φ' a w
theorem awp_turn {P : Program} {c : Fam} {code : Code} {Q : Exit → AS → Prop} {s : AS} {α : Type} {T : α → AS} (ht : TurnsE c s T) (h : ∀ x, AWp P c code Q (T x)) : AWp P c code Q s :=
  ⟨fun φ a w hR => let ⟨x, φ', h'⟩ := ht φ a w hR; (h x).run φ' a w h'⟩

structure WpL (P : Program) (ops : Array Oper) (c : Fam) (l : List Oper) (Q : Exit → AS → Prop) (s : AS) : Prop where
  run : ∀ pre, ops.toList = pre ++ l → ∀ φ a w, RF c s φ a w → wpOpsIn (fz c.rd) 0 P ops (fun e a w => ∃ t φ, Q e t ∧ RF c t φ a w) (List.range' pre.length l.length) a w
section
variable {P : Program} {ops : Array Oper} {c : Fam} {l : List Oper} {Q : Exit → AS → Prop} {s : AS}
theorem awp_regionL {id : Nat} (h : WpL P l.toArray c l Q s) : AWp P c (.region id l.toArray false) Q s := ⟨fun φ a w hR => by
  refine wpIn_region ?_
  have := h.run [] (by simp) φ a w hR
  simpa [List.range_eq_range'] using this⟩
theorem wpl_nil (h : Q .normal s) : WpL P ops c [] Q s := ⟨fun pre hp φ a w hR => by
  show wpOpsIn (fz c.rd) 0 P ops _ [] a w
  exact ⟨s, φ, h, hR⟩⟩
theorem wpl_turn {α : Type} {T : α → AS} (ht : TurnsE c s T) (h : ∀ x, WpL P ops c l Q (T x)) : WpL P ops c l Q s :=
  ⟨fun pre hp φ a w hR => let ⟨x, φ', h'⟩ := ht φ a w hR; (h x).run pre hp φ' a w h'⟩
theorem wpl_run {l1 l2 : List Oper} (hl : l = l1 ++ l2) (hd : dstsB c.nt l1 = true) (h : RunT P ops l1 s fun _ t => WpL P ops c l2 Q t) : WpL P ops c l Q s := ⟨fun pre hp φ a w ⟨c', hG, hR⟩ => by
  subst hl
  have hg : ∀ i : Nat, ops[i]? = (pre ++ (l1 ++ l2))[i]? := fun i => by rw [← hp, Array.getElem?_toList]
  rw [List.length_append, ← List.range'_append_1, ← (c.eq _ hG).2]
  refine runT_on (c := c') l1 (List.range' pre.length l1.length) _ s _ (fun k hk => ?_) (by simp) (dstsB_spec l1 (by rw [(c.eq _ hG).1]; exact hd)) h φ a w hR fun rs t φ' a' w' hk hR' => ?_
  · rw [List.getElem?_range' (by omega), Option.bind_some, hg, List.getElem?_append_right (by omega), List.getElem?_append_left (by omega)]
    congr 1; omega
  · have := WpL.run hk (pre ++ l1) (by rw [hp, List.append_assoc]) φ' a' w' ⟨c', hG, hR'⟩
    rw [(c.eq _ hG).2]
    simpa using this⟩
end

theorem turns_freeze {c : Fam} {s : AS} (nm : Nat) {blk : Blk} (hn : s.mem nm = some blk) : TurnsE c s fun (_ : Unit) => s.freeze nm blk.cells := fun φ a w ⟨c', hG, hR⟩ => ⟨(), φ, c', hG, hR.freeze hn⟩

end Go.Proofs.YtfcfmpdpjmbcnaaGreatDoor

/- Slices of the call's own that lie in a struct's cells. Nothing of the program. -/
namespace Go.Proofs.YtfcfmpdpjmbcnaaGreatDoor
open Go.RowKit

theorem rep_of_eq {ok : Nat → Prop} {φ : Nat → Nat × Nat} {w : World} {v : Value} {x y : AV} (e : x = y) (h : y.rep ok φ w v) : x.rep ok φ w v := e ▸ h
theorem val_rep (ok : Nat → Prop) (w : World) (v : Value) : DV.rep ok w (.val v) v := rep_val.2 rfl
theorem slotAt_pn {c : Ctx} {a : Act} {φ : Nat → Nat × Nat} {i : Nat} (h : PN ≤ i) : slotAt c a φ i = encP (φ i) := by
  unfold slotAt
  rw [blt_no (show GH ≤ i from Nat.le_trans (by decide) h), blt_no h]
  rfl
theorem slotAt_updP {c : Ctx} {a : Act} {φ : Nat → Nat × Nat} {L i : Nat} (h : PN ≤ L) (p : Nat × Nat) (hi : i ≠ L) : slotAt c a (upd φ L p) i = slotAt c a φ i := by
  unfold slotAt
  rw [upd_ne _ _ hi]
section
variable {c : Ctx} {s : AS} {φ : Nat → Nat × Nat} {a : Act} {w : World}
theorem R.rename (h : R c s φ a w) {d L : Nat} {blk : Blk} (hd : s.mem d = some blk) (hL : s.mem L = none) (hPN : PN ≤ L) :
    R c ⟨upd (fun i => ((s.fr i).kill d).kill L) L (.d (.val (encP (φ d)))), upd (upd s.mem d none) L (some blk)⟩ (upd φ L (φ d)) a w := by
  have hdL : d ≠ L := fun e => by rw [e, hL] at hd; cases hd
  have hmem : ∀ n b, upd (upd s.mem d none) L (some blk) n = some b → (n = L ∧ b = blk) ∨ (n ≠ L ∧ n ≠ d ∧ s.mem n = some b) := fun n b hb => by
    by_cases e : n = L
    · subst e; rw [upd_same] at hb; exact .inl ⟨rfl, (Option.some.inj hb).symm⟩
    · rw [upd_ne _ _ e] at hb
      by_cases e2 : n = d
      · subst e2; rw [upd_same] at hb; cases hb
      · rw [upd_ne _ _ e2] at hb; exact .inr ⟨e, e2, hb⟩
  have hold : ∀ n, upd (upd s.mem d none) L (some blk) n ≠ none → ∃ m, s.mem m ≠ none ∧ (upd φ L (φ d) n) = φ m ∧ (n = L → m = d) ∧ (n ≠ L → m = n ∧ n ≠ d) := fun n hn => by
    obtain ⟨b, hb⟩ := Option.ne_none_iff_exists'.1 hn
    rcases hmem n b hb with ⟨e, _⟩ | ⟨e, e2, e3⟩
    · subst e; exact ⟨d, by rw [hd]; simp, upd_same _ _ _, fun _ => rfl, fun h => absurd rfl h⟩
    · exact ⟨n, by rw [e3]; simp, upd_ne _ _ e, fun h => absurd h e, fun _ => ⟨rfl, e2⟩⟩
  have hk : Keeps (okOf c φ s) w (okOf c (upd φ L (φ d)) ⟨upd (fun i => ((s.fr i).kill d).kill L) L (.d (.val (encP (φ d)))), upd (upd s.mem d none) L (some blk)⟩) w := Keeps.wide fun b hb _ => by
    rcases hb with hb | ⟨hb, hb2⟩
    · exact .inl hb
    · refine .inr ⟨hb, fun n hn => ?_⟩
      obtain ⟨m, h1, h2, _⟩ := hold n hn
      rw [h2]; exact hb2 m h1
  have hLV : L ≠ VG := fun e => by have h3 : 3000000 ≤ L := hPN; have h4 : L = 999999 := e; omega
  refine ⟨h.below, h.defers, h.size, h.ntv, fun i hi => ?_, fun n b hb => ?_, fun n b hb => ?_, fun x y hx hy hxy => ?_, h.gh_step (fun v hv => ?_) rfl rfl rfl (Nat.le_refl _) (fun _ _ _ => rfl) fun n hn => ?_⟩
  · by_cases e : i = L
    · subst e
      rw [slotAt_pn hPN, upd_same]
      dsimp only
      refine rep_of_eq (upd_same _ _ _) ?_
      exact val_rep (fun _ => True) w _
    · rw [slotAt_updP hPN _ e]
      dsimp only
      refine rep_of_eq (upd_ne _ _ e) ?_
      exact (AV.rep_kill (fun m hm => upd_ne _ _ hm) (AV.rep_kill (fun _ _ => rfl) (AV.rep_keeps hk (h.fr i hi))))
  · rcases hmem n b hb with ⟨e, _⟩ | ⟨e, _, e3⟩
    · subst e; rw [upd_same]; exact h.own d blk hd
    · rw [upd_ne _ _ e]; exact h.own n b e3
  · rcases hmem n b hb with ⟨e, e2⟩ | ⟨e, _, e3⟩
    · subst e e2; rw [upd_same]; exact (h.mem d b hd).keeps hk rfl
    · rw [upd_ne _ _ e]; exact (h.mem n b e3).keeps hk rfl
  · obtain ⟨m, h1, h2, h3, h4⟩ := hold x hx
    obtain ⟨k, h5, h6, h7, h8⟩ := hold y hy
    rw [h2, h6]
    refine h.inj m k h1 h5 fun e => ?_
    by_cases ex : x = L
    · by_cases ey : y = L
      · exact hxy (ex.trans ey.symm)
      · exact (h8 ey).2 ((h8 ey).1.symm.trans (e.symm.trans (h3 ex)))
    · by_cases ey : y = L
      · exact (h4 ex).2 ((h4 ex).1.symm.trans (e.trans (h7 ey)))
      · exact hxy ((h4 ex).1.symm.trans (e.trans (h8 ey).1))
  · have hv : upd (fun i => ((s.fr i).kill d).kill L) L (.d (.val (encP (φ d)))) VG = .d (.val v) := hv
    rw [upd_ne _ _ (Ne.symm hLV)] at hv
    exact kill_val (kill_val hv)
  · obtain ⟨m, h1, h2, _⟩ := hold n hn
    exact .inl ⟨m, h1, by rw [h2]⟩
theorem R.slot (h : R c s φ a w) {t : Nat} (ht : t < VG) {x : AV} (hx : ∀ v, (s.fr t).rep (okOf c φ s) φ w v → x.rep (okOf c φ s) φ w v) : R c ⟨upd s.fr t x, s.mem⟩ φ a w := by
  refine ⟨h.below, h.defers, h.size, h.ntv, fun i hi => ?_, h.own, h.mem, h.inj, fun k hk => h.gh k ?_⟩
  · show (upd s.fr t x i).rep (okOf c φ s) φ w _
    by_cases e : i = t
    · subst e; rw [upd_same]; exact hx _ (h.fr i hi)
    · rw [upd_ne _ _ e]; exact h.fr i hi
  · have e : upd s.fr t x VG = s.fr VG := upd_ne _ _ (Nat.ne_of_gt ht)
    rw [← e]; exact hk
theorem repL_set1 {ok : Nat → Prop} {x : DV} {v : Value} : ∀ (cells : List DV) (vs : List Value) (off : Nat), DV.repL ok w cells vs → vs[off]? = some v → x.rep ok w v → DV.repL ok w (cells.set off x) vs
  | [], vs, off, h, _, _ => h
  | y :: cells, vs, off, h, hv, hx => by
    obtain ⟨u, us, rfl, h1, h2⟩ := repL_cons.1 h
    cases off with
    | zero =>
      have hv : u = v := by simpa using hv
      subst hv
      exact repL_cons'.2 ⟨hx, h2⟩
    | succ off => exact repL_cons'.2 ⟨h1, repL_set1 cells us off h2 (by simpa using hv) hx⟩
theorem R.recell (h : R c s φ a w) {nm off : Nat} {ty : TypeId} {cells : List DV} (hn : s.mem nm = some ⟨ty, cells⟩) {x y : DV} (hx : cells[off]? = some x) (hxy : ∀ v, x.rep (okOf c φ s) w v → y.rep (okOf c φ s) w v) : R c (s.setBlk nm ⟨ty, cells.set off y⟩) φ a w := by
  refine h.store hn (Turned.refl _ _) ?_
  obtain ⟨vs, ex, h1, h2, h3, h4⟩ := h.mem nm _ hn
  obtain ⟨v, hv, hr⟩ := repL_get h4 hx
  exact ⟨vs, ex, h1, h2, h3, repL_set1 cells vs off h4 hv (hxy v hr)⟩
end

abbrev linkC (b cap n : Nat) : DV := .val (.slice (some ⟨b, 0, none⟩) n cap)
abbrev linkP (b cap sz : Nat) : AV := .d (.val (encP (b, cap * sz)))
abbrev LkOk (n : Nat) : Type := {x : Nat × Nat // n ≤ x.2 ∧ x.2 ≤ maxLen}
theorem turns_pin {c : Fam} {s : AS} {blk : Blk} (t d L : Nat) {m sz : Nat} (ht : s.fr t = .lsl d 0 m sz) (htV : Nat.blt t VG = true) (hd : s.mem d = some blk) (hL : s.mem L = none) (hPN : Nat.ble PN L = true) :
    TurnsE c s fun (x : LkOk m) => ⟨upd (upd (fun i => ((s.fr i).kill d).kill L) L (linkP x.1.1 x.1.2 sz)) t (.d (linkC x.1.1 x.1.2 m)), upd (upd s.mem d none) L (some blk)⟩ := fun φ a w ⟨c', hG, hR⟩ => by
  have htV : t < VG := Nat.le_of_ble_eq_true htV
  have hPN : PN ≤ L := Nat.le_of_ble_eq_true hPN
  have hdL : d ≠ L := fun e => by rw [e, hL] at hd; cases hd
  have h1 := hR.fr t (Nat.ne_of_lt htV)
  rw [ht] at h1
  obtain ⟨cap, h2, h3, h4, h5⟩ := h1
  have h5 : (φ d).2 = cap * sz := by rw [← h5]; omega
  have h6 := hR.rename hd hL hPN
  have hp : φ d = ((φ d).1, cap * sz) := Prod.ext rfl h5
  have htL : t ≠ L := fun e => by have h3 : 3000000 ≤ L := hPN; have h4 : t < 999999 := htV; omega
  refine ⟨⟨((φ d).1, cap), h3, h4⟩, upd φ L ((φ d).1, cap * sz), c', hG, ?_⟩
  have h7 := h6.fr t (Nat.ne_of_lt htV)
  have h8 : R c' ⟨upd (fun i => ((s.fr i).kill d).kill L) L (.d (.val (encP (φ d)))), upd (upd s.mem d none) L (some blk)⟩ (upd φ L (φ d)) a w := h6
  rw [hp] at h8
  refine ⟨h8.below, h8.defers, h8.size, h8.ntv, fun i hi => ?_, h8.own, h8.mem, h8.inj, fun k hk => h8.gh k ?_⟩
  · by_cases e : i = t
    · subst e
      rw [slotAt_updP hPN _ htL, h2]
      dsimp only
      refine rep_of_eq (upd_same _ _ _) ?_
      exact val_rep (fun _ => True) w _
    · dsimp only
      refine rep_of_eq (upd_ne _ _ e) ?_
      exact h8.fr i hi
  · have e : upd (upd (fun i => ((s.fr i).kill d).kill L) L (linkP (φ d).1 cap sz)) t (.d (linkC (φ d).1 cap m)) VG = upd (fun i => ((s.fr i).kill d).kill L) L (linkP (φ d).1 cap sz) VG := upd_ne _ _ (Nat.ne_of_gt htV)
    exact e.symm.trans hk
theorem turns_unlink {c : Fam} {s : AS} (nm off L : Nat) {b cap n sz : Nat} {ty ty2 : TypeId} {cells cells2 : List DV} (hn : s.mem nm = some ⟨ty, cells⟩) (hc : cells[off]? = some (linkC b cap n)) (hL : s.mem L = some ⟨ty2, cells2⟩) (hp : s.fr L = linkP b cap sz) (hPN : Nat.ble PN L = true) (hnL : nm ≠ L) (hle : n ≤ cap) (hcap : cap ≤ maxLen) :
    TurnsE c s fun (_ : Unit) => ⟨fun i => (s.fr i).frz L cells2, upd (upd s.mem L none) nm (some ⟨ty, cells.set off (.slice n (cells2.take (n * sz)))⟩)⟩ := fun φ a w ⟨c', hG, hR⟩ => by
  have hPN : PN ≤ L := Nat.le_of_ble_eq_true hPN
  have h1 := hR.fr L (fun e => by have h3 : 3000000 ≤ L := hPN; have h4 : L = 999999 := e; omega)
  rw [hp, slotAt_pn hPN] at h1
  have h1 : encP (φ L) = encP (b, cap * sz) := (rep_val (ok := okOf c' φ s) (w := w)).1 h1
  unfold encP at h1
  injection h1 with e1 _ e2
  injection e1 with e1
  injection e1 with e1
  have hf := hR.freeze hL
  have hn2 : (s.freeze L cells2).mem nm = some ⟨ty, cells⟩ := (upd_ne _ _ hnL).trans hn
  refine ⟨(), φ, c', hG, hf.recell hn2 hc fun v hv => ?_⟩
  have hv := (rep_val (ok := okOf c' φ (s.freeze L cells2)) (w := w)).1 hv
  have hs : (AV.lsl L 0 n sz).rep (okOf c' φ s) φ w v := ⟨cap, by rw [hv, e1], hle, hcap, by rw [e2]; simp⟩
  have := hR.slice_of_own hL (ok := okOf c' φ (s.freeze L cells2)) (.inr ⟨hR.own L _ hL, fun m hm => ?_⟩) (fun b hb => okOf_freeze L _ hb) hs
  · rwa [List.drop_zero] at this
  · have hmL : m ≠ L := fun e => by subst e; exact hm (upd_same _ _ _)
    have hm2 : s.mem m ≠ none := by
      have e : (s.freeze L cells2).mem m = s.mem m := upd_ne _ _ hmL
      rwa [e] at hm
    exact hR.inj m L hm2 (by rw [hL]; simp) hmL

end Go.Proofs.YtfcfmpdpjmbcnaaGreatDoor

/- A slice that grows in a struct's cell: nil, then a link. Nothing of the program. -/
namespace Go.Proofs.YtfcfmpdpjmbcnaaGreatDoor
open Go.RowKit

def lkC (b cap : Nat) : Nat → DV
  | 0 => nilV
  | k + 1 => linkC b cap (k + 1)
def lkF (L b cap sz : Nat) : Nat → List (Nat × AV)
  | 0 => []
  | _ + 1 => [(L, linkP b cap sz)]
def lkM (L : Nat) (ty : TypeId) (cells : List DV) : Nat → List (Nat × Blk)
  | 0 => []
  | _ + 1 => [(L, ⟨ty, cells⟩)]
def LkJ (b cap k : Nat) : Prop := k = 0 ∨ (k ≤ cap ∧ cap ≤ maxLen)
theorem LkJ.of {k : Nat} (x : LkOk k) : LkJ x.1.1 x.1.2 k := .inr x.2


/-! Slices of any items that a loop makes. -/
def ownZ (nm sz : Nat) : Nat → AV
  | 0 => .d nilV
  | k + 1 => .lsl nm 0 (k + 1) sz
section
variable {P : Program} {c : Fam} {Q : Exit → AS → Prop} {s : AS}
theorem awp_ownZ {code : Code} (i nm sz : Nat) {n : Nat} {t : TypeId} (cells : List DV) (hl : cells.length = n * sz) (hi : s.fr i = ownZ nm sz n) (hm : ∀ k, n = k + 1 → s.mem nm = some ⟨t, cells⟩)
    (h : AWp P c code Q ⟨upd (fun j => (s.fr j).kill nm) i (.d (.slice n cells)), upd s.mem nm none⟩) : AWp P c code Q s := by
  cases n with
  | zero =>
    have hc : cells = [] := List.length_eq_zero_iff.1 (by omega)
    subst hc
    refine awp_weaken (kill_le s nm) ?_
    refine awp_nil i ?_ h
    show (s.fr i).kill nm = _
    rw [hi]; rfl
  | succ k =>
    have hm := hm k rfl
    refine awp_freeze nm hm (awp_weaken (s' := ⟨upd (fun j => (s.fr j).kill nm) i (.d (.slice (k + 1) cells)), upd s.mem nm none⟩) ⟨fun j => ?_, fun n blk hb => hb⟩ h)
    show upd (fun j => (s.fr j).kill nm) i (.d (.slice (k + 1) cells)) j = .d .any ∨ upd (fun j => (s.fr j).kill nm) i (.d (.slice (k + 1) cells)) j = (s.fr j).frz nm cells
    by_cases e : j = i
    · subst e
      refine .inr ?_
      rw [upd_same, hi]
      show _ = AV.frz nm cells (.lsl nm 0 (k + 1) sz)
      simp only [AV.frz, BEq.rfl, cond_true]
      rw [List.drop_zero, List.take_of_length_le (by omega)]
    · rw [upd_ne _ _ e]
      cases s.fr j with
      | d x => exact .inr rfl
      | ptr n off => cases hh : n == nm <;> simp [AV.kill, AV.frz, hh]
      | lsl n off len sz => cases hh : n == nm <;> simp [AV.kill, AV.frz, hh]
      | dep a b f => cases hh : (a == nm || b == nm) <;> simp only [AV.kill, AV.frz, hh, cond_true, cond_false] <;> simp
end

end Go.Proofs.YtfcfmpdpjmbcnaaGreatDoor

/- Functions that are handed a yield: contracts and rules. Nothing of the program. -/
namespace Go.Proofs.YtfcfmpdpjmbcnaaGreatDoor
open Go.RowKit

theorem awp_region_anyL {P : Program} {c : Fam} {Q : Exit → AS → Prop} {s : AS} (hm : P.follows .mixedOrders = true) {id : Nat} {l l1 : List Oper} {o : Oper} (hl : l = l1 ++ [o]) (hd : dstsB c.nt l = true) (h : RunT P l.toArray l1 s fun rs t => regOkL l.toArray l1 rs = true ∧ WpL P l.toArray c [o] Q t) : AWp P c (.region id l.toArray true) Q s := ⟨fun φ a w hR => by
  obtain ⟨c', hG, hR⟩ := hR
  rw [← (c.eq _ hG).2]
  refine region_anyL hm (l := l1) (o := o) (by simpa using hl) (K := fun rs t => regOkL l.toArray l1 rs = true ∧ WpL P l.toArray c [o] Q t) (dstsB_spec l.toArray.toList (by rw [(c.eq _ hG).1]; simpa using hd)) h hR (fun _ _ h => h.1) fun _ t φ' a' w' h1 h2 => ?_
  have := h1.2.run l1 (by simpa using hl) φ' a' w' ⟨c', hG, h2⟩
  rw [show List.range' l1.length [o].length = [l1.length] from rfl, wpOpsIn_cons, ← (c.eq _ hG).2] at this
  exact this⟩
section
variable {P : Program} {s : AS} {dst : Option Tmp} {ty : TypeId} {ps : String} {af : Array Edge} {t : TypeId} {x y : Operand}
theorem o_loadLk {nm off L b cap n sz k : Nat} {blk : Blk} [h : TyI P t false k] (hx : s.ev x = .ptr nm off) (hm : s.mem nm = some blk) (hc : (blk.cells.drop off)[0]? = some (linkC b cap n)) (hL : s.fr L = linkP b cap sz) (hPN : Nat.ble PN L = true) (hn : n ≤ cap) (hcap : cap ≤ maxLen) (gd : Option (Nat × Bool)) :
    Does P ⟨dst, .load t x, ty, ps, af, gd⟩ s [nm] (.put (.lsl L 0 n sz)) :=
  ⟨fun c s' φ a w K Q hR hop hrd hd hlk hK => by
    have hPN : PN ≤ L := Nat.le_of_ble_eq_true hPN
    have h1 := ge_ptr hR (hop x (by simp [Op.operands])) hx
    obtain ⟨v, hv, hr⟩ := hR.load (P := P) ((hrd nm (by simp)).trans hm) (.one h.eq hc)
    have hr := (rep_val (ok := okOf c φ s') (w := w)).1 hr
    unfold Oper.wp
    have : (execOp a.eval ⟨dst, .load t x, ty, ps, af, gd⟩).run P w = .ok (.value v) w := by
      simp only [execOp, h1, Sem.run_bind, Instr.loadAt, Instr.sureAddr, Sem.run_pure, Result.andThen_ok, hv]
    rw [this]
    have h2 := hR.fr L (fun e => by have h3 : 3000000 ≤ L := hPN; have h4 : L = 999999 := e; omega)
    rw [hlk L _ hPN hL, slotAt_pn hPN] at h2
    have h2 : encP (φ L) = encP (b, cap * sz) := (rep_val (ok := okOf c φ s') (w := w)).1 h2
    unfold encP at h2
    injection h2 with e1 _ e2
    injection e1 with e1
    injection e1 with e1
    exact hK _ _ _ (hR.put hd ⟨cap, by rw [hr, e1], hn, hcap, by rw [e2]; simp⟩)⟩
end

end Go.Proofs.YtfcfmpdpjmbcnaaGreatDoor
