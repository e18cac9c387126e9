/- Merged: XNc XNg. -/
import Derived.Test.YtagpmpbmfjaiiaaGreatDoorM9
import Derived.Laws.CopyRow
import Derived.Lib.AppendZeros
set_option linter.unusedVariables false
set_option linter.unusedSimpArgs false
/- Parts of slices of the call's own; copy. Nothing of the program. -/
namespace Go.Proofs.YtagpmpbmfjaiiaaGreatDoor
open Go.RowKit

section
variable {P : Program} {ops : Array Oper} {l : List Oper} {F : Nat → AV} {M : Nat → Option Blk} {K : List Rec → AS → Prop} {op : Op} {ty : TypeId} {ps : String} {af : Array Edge}
theorem r_setV {d nm : Nat} {rd : List Nat} {blk : Blk} {r : AV} (hd : ∀ gd, Does P ⟨some d, op, ty, ps, af, gd⟩ ⟨F, M⟩ rd (.setBlk nm blk r)) (h : RunT P ops l ⟨upd F d r, upd M nm (some blk)⟩ fun rs => K (⟨.setBlk nm blk r, rd, tchOf ⟨some d, op, ty, ps, af, none⟩ ⟨F, M⟩⟩ :: rs)) : RunT P ops (⟨some d, op, ty, ps, af, none⟩ :: l) ⟨F, M⟩ K :=
  ⟨_, rd, .plain rfl (hd none), h⟩
end
section
variable {P : Program} {s : AS} {dst : Option Tmp} {ty : TypeId} {ps : String} {af : Array Edge} {t : TypeId} {x y : Operand} {k : IntKind}
theorem o_sliceOL {n nm off len sz l : Nat} [ht : IdxI P t false n sz] (hx : s.ev x = .lsl nm off len sz) (hy : s.ev y = .d (.val (.int k (l : Int)))) (hl : l < len) (gd : Option (Nat × Bool)) : Does P ⟨dst, .slice t x (some y) none none, ty, ps, af, gd⟩ s [] (.put (.lsl nm (off + l * sz) (len - l) sz)) :=
  does_pure fun c s' φ a w hR hop => by
    obtain ⟨cap, e1, h1, h2, h3⟩ := ge_lsl hR (hop x (by simp [Op.operands])) hx
    have e2 := ge_val hR (hop y (by simp [Op.operands])) hy
    obtain ⟨e, i, hu, hi, hsz⟩ := idxOf_parts ht.eq
    have hrun := run_slice2 (A := some ⟨(φ nm).1, off, none⟩) (len := len) (cap := cap) (k := k) hu hi hsz (show (0 : Int) ≤ (l : Int) by omega) (show (l : Int) ≤ len by omega) w
    refine ⟨_, ?_, ⟨cap - l, rfl, by omega, by omega, ?_⟩⟩
    · simp only [execOp, e1, e2, Option.map_none, Option.map_some, Sem.run_bind, hrun, Result.andThen_ok, Sem.run_pure, Int.toNat_natCast]
      rw [if_neg (by omega)]
      simp [addr_add]
    · rw [← h3, Nat.add_assoc, ← Nat.add_mul]
      congr 2
      omega
theorem o_sliceOH {n nm off len sz h : Nat} [ht : IdxI P t false n sz] (hx : s.ev x = .lsl nm off len sz) (hy : s.ev y = .d (.val (.int k (h : Int)))) (hl : h ≤ len) (gd : Option (Nat × Bool)) : Does P ⟨dst, .slice t x none (some y) none, ty, ps, af, gd⟩ s [] (.put (.lsl nm off h sz)) :=
  does_pure fun c s' φ a w hR hop => by
    obtain ⟨cap, e1, h1, h2, h3⟩ := ge_lsl hR (hop x (by simp [Op.operands])) hx
    have e2 := ge_val hR (hop y (by simp [Op.operands])) hy
    obtain ⟨e, i, hu, hi, hsz⟩ := idxOf_parts ht.eq
    have hrun := run_slice1 (A := some ⟨(φ nm).1, off, none⟩) (len := len) (cap := cap) (k := k) hu hi hsz (show (0 : Int) ≤ (h : Int) by omega) (show (h : Int) ≤ cap by omega) w
    refine ⟨_, ?_, ⟨cap, rfl, by omega, h2, h3⟩⟩
    simp only [execOp, e1, e2, Option.map_none, Option.map_some, Sem.run_bind, hrun, Result.andThen_ok, Sem.run_pure, Int.toNat_natCast]
    by_cases hc : cap = 0
    · rw [if_pos hc]
    · rw [if_neg hc]
      simp [addr_add]
theorem o_copy {nm off n m e bytes : Nat} {zs : List Value} {blk : Blk} {cs : List DV} {rd : List Nat} [ht : SliI P t e 1 bytes zs] (hx : s.ev x = .lsl nm off n 1) (hm : s.mem nm = some blk) (hl : off + n ≤ blk.cells.length)
    (hy : Src s y m cs rd) (hcl : cs.length = m) (hpos : 0 < m) (hn : 0 < n) {new : List DV} (hnew : spl blk.cells off (cs.take n) = new) {r : AV} (hr : AV.d (I ((Nat.min m n : Nat) : Int)) = r) (gd : Option (Nat × Bool)) :
    Does P ⟨dst, .call ⟨.builtin .copy, #[x, y], #[t, t]⟩, ty, ps, af, gd⟩ s (nm :: rd) (.setBlk nm ⟨blk.ty, new⟩ r) :=
  ⟨fun c s' φ a w K Q hR hop hrd hd _ hK => by
    obtain ⟨i, z, hu, hi, hz, hsz, hby, hzc, hzs, hpos2, ho⟩ := sliOf_parts ht.eq
    have hm' : s'.mem nm = some blk := (hrd nm (by simp)).trans hm
    obtain ⟨cap, e1, h1, h2, h3⟩ := ge_lsl hR (hop x (by simp [Op.operands, Call.operands])) hx
    have hne : cs ≠ [] := by
      intro h0; rw [h0] at hcl; simp at hcl; omega
    obtain ⟨b, o, cap2, vs2, e2, hc2, ho2, hr2⟩ := hy.rep hR (hop y (by simp [Op.operands, Call.operands])) (fun n hn => hrd n (by simp [hn])) hne
    obtain ⟨vs, ex, hh, hsz2, hov, hrv⟩ := hR.mem nm blk hm'
    have hvl := repL_length hrv
    have hvl2 := repL_length hr2
    have htk : (vs2.take n).length = Nat.min m n := by rw [List.length_take, hvl2, hcl]; exact Nat.min_comm _ _
    have hmn : Nat.min m n ≤ n := Nat.min_le_right _ _
    have hrun := run_copy_row P w t t ty e (φ nm).1 off n cap ⟨b, o, none⟩ m cap2 (vs ++ ex).toArray blk.ty (vs2.take n) hu (by rw [hi, Option.map_some, hsz]) hh htk (fun j v hj => by
      rw [List.getElem?_take] at hj
      split at hj
      · have := hc2 j v hj
        simpa [addr_add] using this
      · cases hj) (by simp at hvl ⊢; omega) (fun v hv => ho2 v (List.mem_of_mem_take hv))
    rw [htk] at hrun
    unfold Oper.wp
    have hex : (execOp a.eval ⟨dst, .call ⟨.builtin .copy, #[x, y], #[t, t]⟩, ty, ps, af, gd⟩).run P w = .ok (.value (.int .i64 (Nat.min m n : Nat))) (w.setRow (φ nm).1 ((vs ++ ex).toArray.toList.take off ++ vs2.take n ++ (vs ++ ex).toArray.toList.drop (off + Nat.min m n)).toArray) := by
      simp [execOp, resolve, invoke, builtin, e1, e2, hrun, goInt]
    rw [hex]
    obtain ⟨htu, hhn⟩ := turned_setRow (cs := ((vs ++ ex).toArray.toList.take off ++ vs2.take n ++ (vs ++ ex).toArray.toList.drop (off + Nat.min m n)).toArray) hh
    have hblk : BlkAt (okOf c φ s') (w.setRow (φ nm).1 ((vs ++ ex).toArray.toList.take off ++ vs2.take n ++ (vs ++ ex).toArray.toList.drop (off + Nat.min m n)).toArray) (φ nm) ⟨blk.ty, new⟩ := by
      subst hnew
      have hkk : Keeps (okOf c φ s') w (okOf c φ s') (w.setRow (φ nm).1 ((vs ++ ex).toArray.toList.take off ++ vs2.take n ++ (vs ++ ex).toArray.toList.drop (off + Nat.min m n)).toArray) := by
        refine ⟨fun _ h _ => h, by rw [htu.size]; exact Nat.le_refl _, fun b o u hb hl hc => ?_⟩
        have hB := hR.own nm blk hm'
        have hne : b ≠ (φ nm).1 := by
          rcases hb with ⟨hb, _, hxx⟩ | ⟨_, hb⟩
          · rintro rfl
            rcases hB with hB | hB
            · omega
            · exact hxx hB
          · exact fun e => hb nm (by rw [hm']; simp) e.symm
        exact (World.cell?_of_block (a := ⟨b, o, none⟩) (htu.block b hne)).trans hc
      refine ⟨spl vs off (vs2.take n), ex, ?_, ?_, ?_, ?_⟩
      · rw [hhn]
        simp only [spl]
        congr 3
        have e1 : off ≤ vs.length := by omega
        have e2 : off + Nat.min m n ≤ vs.length := by omega
        rw [htk, List.take_append_of_le_length e1, List.drop_append_of_le_length e2]
        simp [List.append_assoc]
      · rw [← hsz2]
        simp only [spl, List.length_append, List.length_take, List.length_drop] at htk ⊢
        omega
      · intro u hu
        simp only [spl, List.mem_append] at hu
        rcases hu with (hu | hu) | hu
        · exact hov u (List.mem_of_mem_take hu)
        · exact ho2 u (List.mem_of_mem_take hu)
        · exact hov u (List.mem_of_mem_drop hu)
      · have hlt : (cs.take n).length = (vs2.take n).length := by rw [List.length_take, List.length_take, hvl2]
        show DV.repL _ _ (spl blk.cells off (cs.take n)) _
        unfold spl
        rw [hlt]
        exact repL_append (repL_append (repL_take (DV.repL_keeps hkk _ _ hrv) off) (repL_take (DV.repL_keeps hkk _ _ hr2) n)) (repL_drop (DV.repL_keeps hkk _ _ hrv) _)
    subst hr
    exact hK _ _ _ ((hR.store hm' htu hblk).put hd ((rep_val (ok := okOf c φ s') (w := w)).2 rfl))⟩
end

end Go.Proofs.YtagpmpbmfjaiiaaGreatDoor

/- append of a made slice to nil, and what goes with it (slices.Grow). Nothing of the program. -/
namespace Go.Proofs.YtagpmpbmfjaiiaaGreatDoor
open Go.RowKit
section
variable {P : Program} {s : AS} {dst : Option Tmp} {ty : TypeId} {ps : String} {af : Array Edge} {t t' : TypeId} {x y : Operand} {k : IntKind}

theorem o_capN {e : TypeId} [ht : UndI P t (.slice e)] (hx : s.ev x = .d (.val (.slice none 0 0))) (gd : Option (Nat × Bool)) : Does P ⟨dst, .call ⟨.builtin .cap, #[x], #[t]⟩, ty, ps, af, gd⟩ s [] (.put (.d (.val (.int .i64 0)))) :=
  does_pure fun c s' φ a w hR hop => by
    have e1 := ge_val hR (hop x (by simp [Op.operands, Call.operands])) hx
    refine ⟨_, ?_, (rep_val (ok := okOf c φ s') (w := w)).2 rfl⟩
    simp [execOp, resolve, invoke, builtin, e1, Builtin.cap_, run_underlying ht.eq, goInt]
theorem o_sliceNH {n sz : Nat} [ht : IdxI P t false n sz] (hx : s.ev x = .d (.val (.slice none 0 0))) (hy : s.ev y = .d (.val (.int k 0))) (gd : Option (Nat × Bool)) : Does P ⟨dst, .slice t x none (some y) none, ty, ps, af, gd⟩ s [] (.put (.d (.val (.slice none 0 0)))) :=
  does_pure fun c s' φ a w hR hop => by
    have e1 := ge_val hR (hop x (by simp [Op.operands])) hx
    have e2 := ge_val hR (hop y (by simp [Op.operands])) hy
    obtain ⟨e, i, hu, hi, hsz⟩ := idxOf_parts ht.eq
    have hrun := run_slice1 (A := none) (len := 0) (cap := 0) (k := k) hu hi hsz (show (0 : Int) ≤ ((0 : Nat) : Int) by omega) (show ((0 : Nat) : Int) ≤ (0 : Nat) by omega) w
    refine ⟨_, ?_, (rep_val (ok := okOf c φ s') (w := w)).2 rfl⟩
    simp only [execOp, e1, e2, Option.map_none, Option.map_some, Sem.run_bind]
    have hrun' : (Instr.sliceAt t (.slice none 0 0) none (some (.int k 0)) none).run P w = .ok (.slice none 0 0) w := by
      refine hrun.trans ?_
      simp
    rw [hrun']
    rfl
/-- append(nil, make([]T, n)...): an own slice of whose cells nothing is said. -/
theorem o_appZ {d e sz bytes m : Nat} {zs : List Value} [ht : SliI P t e sz bytes zs] [hn : UndI P t' (.int k)] (hx : s.ev x = .d (.val (.slice none 0 0))) (hy : s.ev y = .d (.val (.int .i64 (m : Int)))) (hpos : 0 < m) (hb : m * bytes ≤ 140737488355328) (hb2 : m ≤ 140737488355328) (gd : Option (Nat × Bool)) :
    Does P ⟨some d, .call ⟨.builtin .append, #[x, y], #[t, t']⟩, ty, ps, af, gd⟩ s [] (.newBlk ⟨e, []⟩ (.lsl d 0 m sz)) :=
  ⟨fun c s' φ a w K Q hR hop hrd hd _ hK => by
    obtain ⟨i, z, hu, hi, hz, hsz, hby, hzc, hzs, hpos2, ho⟩ := sliOf_parts ht.eq
    have e1 := ge_val hR (hop x (by simp [Op.operands, Call.operands])) hx
    have e2 := ge_val hR (hop y (by simp [Op.operands, Call.operands])) hy
    have hrun := Lib.run_append_nil_zeros (P := P) w t t' ty e i z .i64 k hu hn.eq hi hz m hpos (by rw [hsz]; exact hpos2) (by omega) (by rw [hby]; omega)
    have hge := grownCap_ge w m 0 e
    have hcm : grownCap w m 0 e ≤ maxLen := grownCap_le_maxLen w m 0 e (by unfold maxLen; omega)
    obtain ⟨cap, hcap⟩ : ∃ cap, cap = grownCap w m 0 e := ⟨_, rfl⟩
    obtain ⟨w', hw'⟩ : ∃ w', w' = w.drew.alloc (.cells (Builtin.zeroCells z.cells m ++ Builtin.zeroCells z.cells (grownCap w m 0 e - m)) e) := ⟨_, rfl⟩
    rw [← hw'] at hrun
    rw [← hcap] at hrun hge hcm
    unfold Oper.wp
    have hrun2 : (execOp a.eval ⟨some d, .call ⟨.builtin .append, #[x, y], #[t, t']⟩, ty, ps, af, gd⟩).run P w = .ok (.value (.slice (some ⟨w.heap.size, 0, none⟩) m cap)) w' := by
      simp only [execOp, resolve, invoke, builtin, Sem.run_bind, Sem.run_pure, Result.andThen_ok, List.map_toArray, List.map_cons, List.map_nil, e1, e2, hrun]
    rw [hrun2]
    have hb3 : Below w.heap.size w w' := by rw [hw']; exact ((Below.refl _ w).drew).alloc (Nat.le_refl _) _
    refine hK _ _ _ (hR.newBlk hb3 (hd d rfl) (Nat.le_refl _) (n := cap * sz) ⟨[], (Builtin.zeroCells z.cells m ++ Builtin.zeroCells z.cells (cap - m)).toList, ?_, ?_, ?_, repL_nil.2 rfl⟩ ?_)
    · rw [hw', ← hcap]
      exact heap_alloc_new w.drew _
    · simp only [List.nil_append, Array.toList_append, List.length_append, Array.length_toList, size_zeroCells, hzs, ← Nat.add_mul]
      congr 1
      omega
    · exact fun u hu => absurd hu List.not_mem_nil
    · refine ⟨cap, ?_, hge, hcm, ?_⟩
      · rw [upd_same]
      · rw [upd_same]; simp⟩
end

end Go.Proofs.YtagpmpbmfjaiiaaGreatDoor
