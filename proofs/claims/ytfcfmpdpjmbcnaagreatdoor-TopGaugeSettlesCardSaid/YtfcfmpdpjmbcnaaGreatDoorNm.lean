/- Merged: XNq XNr XNo XNk. -/
import Derived.Test.YtfcfmpdpjmbcnaaGreatDoorM9
import Derived.Test.YtfcfmpdpjmbcnaaGreatDoorNu
import Derived.Test.YtfcfmpdpjmbcnaaGreatDoorFz
set_option linter.unusedVariables false
set_option linter.unusedSimpArgs false
/- Iterators that have captured the address of a block of their own. Nothing of the program. -/
namespace Go.Proofs.YtfcfmpdpjmbcnaaGreatDoor
open Go.RowKit

def AYp (P : Program) (gf : FuncId) (ca : List DV) (blk : Blk) (cb : List DV) (xs : List YA) (fin : Bool) : Prop :=
  ∀ (fz0 : Nat → Prop) (w : World) (us1 us2 : List Value) (g sz l : Nat) (J Jx : Ghost), DV.repL fz0 w ca us1 → DV.repL fz0 w cb us2 → BlkAt fz0 w (g, sz) blk → ¬ fz0 g → ¬ GBlk g → g < w.heap.size → (fin = false → ∀ K W, ¬ J xs.length K W) → (∀ b, fz0 b → b < w.heap.size) → Stable J → Stable Jx →
    (∀ k K W d args (okA : Nat → Prop), xs[k]? = some d → J k K W → (∀ b, K b → b < W.heap.size) → d.rep K okA W args → (∀ b, okA b → b < W.heap.size ∧ (fz0 b ∨ ¬ K b)) →
      YieldAt Fence.wide 0 P l args.toArray W fun e W' => SameW W W' ∧ (Glob W → Glob W') ∧ ∃ K', (∀ b, K b → K' b) ∧ (∀ b, K' b → K b ∨ okA b ∨ W.heap.size ≤ b) ∧ (∀ b, K' b → b < W'.heap.size) ∧ (∀ b, b < W.heap.size → (fz0 b ∨ ¬ K b) → ¬ d.shows args b → W'.heap[b]? = W.heap[b]?) ∧
        (∀ ty cells n sz g cap, d = .sl ty cells n sz → args = [.slice (some ⟨g, 0, none⟩) n cap] → BlkAt (fun _ => False) W' (g, cap * sz) ⟨ty, cells⟩) ∧
        ((e = .returned (.bool true) ∧ J (k + 1) K' W') ∨ (e = .returned (.bool false) ∧ Jx (k + 1) K' W'))) →
    ∀ K0, J 0 K0 w → (∀ b, K0 b ↔ b < w.heap.size ∧ b ≠ g) → ∀ [GlobI w],
    Calls P gf (.func (.yield l) #[] #[] :: (us1 ++ .pointer (some ⟨g, 0, none⟩) :: us2)).toArray w fun e w' => (∃ v, e = .returned v) ∧ SameW w w' ∧ ∃ K', (∀ b, K' b → b < w'.heap.size) ∧ (J xs.length K' w' ∨ ∃ k, Jx k K' w')

@[reducible] def entryP (l : Nat) (ca : List DV) (blk : Blk) (cb : List DV) (p nm : Nat) : AS :=
  ⟨upd (upd (entry (.val (.func (.yield l) #[] #[]) :: (ca ++ .any :: cb))).fr p (.ptr nm 0)) VG (cntV 0), upd (fun _ => none) nm (some blk)⟩

theorem ayp_body {P : Program} {gf : FuncId} {fn : Func} {code : Code} {ca cb : List DV} {blk : Blk} {xs : List YA} {fin : Bool} (p nm : Nat) (hf : P.funcs[gf]? = some fn) (hb : fn.body = some code) (hres : fn.results = #[])
    (hn : (Nat.ble (DV.any :: (ca ++ .any :: cb)).length fn.ntmps && Nat.ble fn.ntmps VG) = true) (hp : p = 1 + ca.length) (h : ∀ w0 J sJ fz0 l, Itr P (itF w0 J sJ fz0 fn.ntmps) l xs fin → AWp P (itF w0 J sJ fz0 fn.ntmps) code (YRet xs fin) (entryP l ca blk cb p nm)) : AYp P gf ca blk cb xs fin := by
  intro fz0 w us1 us2 g sz l J Jx hca hcb hblk hgz hgG hgs hnv hfz sJ sJx hY K0 hJ0 hK0 hgi
  have hr : DV.repL fz0 w (.val (.func (.yield l) #[] #[]) :: (ca ++ .any :: cb)) (.func (.yield l) #[] #[] :: (us1 ++ .pointer (some ⟨g, 0, none⟩) :: us2)) :=
    repL_cons'.2 ⟨rep_val.2 rfl, repL_append hca (repL_cons'.2 ⟨by rw [DV.rep]; trivial, hcb⟩)⟩
  have hl1 := repL_length hca
  have hnn : (Nat.ble (DV.val (.func (.yield l) #[] #[]) :: (ca ++ .any :: cb)).length fn.ntmps && Nat.ble fn.ntmps VG) = true := by
    rw [← hn]; simp
  refine callsIn_wide.1 (callsIn_of_wp_marks (F := Fence.wide) (n := 0) hf hb trivial ?_)
  obtain ⟨a0, ha0⟩ : ∃ a0 : Act, a0 = { tmps := (.func (.yield l) #[] #[] :: (us1 ++ .pointer (some ⟨g, 0, none⟩) :: us2)).toArray ++ Array.replicate (fn.ntmps - (.func (.yield l) #[] #[] :: (us1 ++ .pointer (some ⟨g, 0, none⟩) :: us2)).toArray.size) undef, defers := [] } := ⟨_, rfl⟩
  have hR0 : R (itc (J2 J Jx) (sJ.J2 sJx) fz0 fn.ntmps w fz0 (fun _ => False)) (entry (.val (.func (.yield l) #[] #[]) :: (ca ++ .any :: cb))) (fun _ => (0, 0)) a0 w := by
    rw [ha0]
    exact entry_R rfl hnn (fun _ _ _ h => h) hr (fun _ => rfl) hgi.is (fun _ _ h => h)
  obtain ⟨c, hc⟩ : ∃ c, c = itc (J2 J Jx) (sJ.J2 sJx) fz0 fn.ntmps w fz0 (fun b => b = g) := ⟨_, rfl⟩
  have hpl : p < fn.ntmps := by
    simp only [Bool.and_eq_true, Nat.ble_eq, List.length_cons, List.length_append] at hn
    omega
  have hpV : p < VG := Nat.lt_of_lt_of_le hpl (by simp only [Bool.and_eq_true, Nat.ble_eq] at hn; exact hn.2)
  have hslot : slotAt c a0 (fun _ => (g, sz)) p = .pointer (some ⟨g, 0, none⟩) := by
    rw [slotAt_lt hpV, ha0, hp]
    have : (us1 ++ Value.pointer (some ⟨g, 0, none⟩) :: us2)[us1.length]? = some (.pointer (some ⟨g, 0, none⟩)) := by
      rw [List.getElem?_append_right (Nat.le_refl _), Nat.sub_self]; rfl
    have h2 : (((.func (.yield l) #[] #[] :: (us1 ++ .pointer (some ⟨g, 0, none⟩) :: us2)).toArray ++ Array.replicate (fn.ntmps - (.func (.yield l) #[] #[] :: (us1 ++ .pointer (some ⟨g, 0, none⟩) :: us2)).toArray.size) undef) : Array Value)[1 + ca.length]? = some (.pointer (some ⟨g, 0, none⟩)) := by
      rw [Array.getElem?_append_left (by simp; omega), List.getElem?_toArray, Nat.add_comm, List.getElem?_cons_succ, ← hl1]
      exact this
    rw [Array.getD_eq_getD_getElem?, h2]; rfl
  have hnm : ∀ m, (upd (fun _ => none) nm (some blk) : Nat → Option Blk) m ≠ none → m = nm := fun m hm => by
    by_cases e : m = nm
    · exact e
    · rw [upd_ne _ _ e] at hm; exact absurd rfl hm
  have hok : ∀ b, fz0 b → okOf c (fun _ => (g, sz)) (entryP l ca blk cb p nm) b := fun b hb => by
    rw [hc]
    exact .inl ⟨hfz b hb, hb, fun e => hgz (e ▸ hb)⟩
  have hkeep : Keeps (okOf (itc (J2 J Jx) (sJ.J2 sJx) fz0 fn.ntmps w fz0 (fun _ => False)) (fun _ => (0, 0)) (entry (.val (.func (.yield l) #[] #[]) :: (ca ++ .any :: cb)))) w (okOf c (fun _ => (g, sz)) (entryP l ca blk cb p nm)) w := Keeps.wide fun b hb hl => by
    rcases hb with ⟨_, h2, _⟩ | ⟨h1 | h1, _⟩
    · exact hok b h2
    · exact absurd hl (Nat.not_lt.2 h1)
    · exact h1.elim
  have hR : R c (entryP l ca blk cb p nm) (fun _ => (g, sz)) a0 w := by
    refine ⟨by rw [hc]; exact BelowX.refl hgi.is (fun b hb e => hgG (e ▸ hb)), by rw [hc]; exact hR0.defers, by rw [hc]; exact hR0.size, by rw [hc]; exact hR0.ntv, fun i hi => ?_, fun m b hm => ?_, fun m b hm => ?_, fun n m h1 h2 h3 => absurd ((hnm n h1).trans (hnm m h2).symm) h3, fun k hk => ?_⟩
    · show AV.rep _ _ w (upd (upd (entry (.val (.func (.yield l) #[] #[]) :: (ca ++ .any :: cb))).fr p (.ptr nm 0)) VG (cntV 0) i) _
      rw [upd_ne _ _ hi]
      by_cases e : i = p
      · subst e
        rw [upd_same]
        exact hslot
      · rw [upd_ne _ _ e]
        by_cases hin : i < PN
        · have h1 := AV.rep_keeps hkeep (hR0.fr i hi)
          have h2 : slotAt c a0 (fun _ => (g, sz)) i = slotAt (itc (J2 J Jx) (sJ.J2 sJx) fz0 fn.ntmps w fz0 (fun _ => False)) a0 (fun _ => (0, 0)) i := by
            unfold slotAt
            rw [show Nat.blt i PN = true from Nat.ble_eq_true_of_le hin, hc]; rfl
          rw [h2]
          have h3 : ∀ {x : AV} {v : Value}, x.rep (okOf c (fun _ => (g, sz)) (entryP l ca blk cb p nm)) (fun _ => (0, 0)) w v → (∃ d, x = .d d) → x.rep (okOf c (fun _ => (g, sz)) (entryP l ca blk cb p nm)) (fun _ => (g, sz)) w v := fun {x v} hx ⟨d, hd⟩ => by
            subst hd; exact hx
          exact h3 h1 ⟨_, rfl⟩
        · have h4 : (DV.val (.func (.yield l) #[] #[]) :: (ca ++ .any :: cb))[i]? = none := by
            refine List.getElem?_eq_none ?_
            simp only [Bool.and_eq_true, Nat.ble_eq] at hnn
            have := Nat.le_trans hnn.1 hnn.2
            have h5 : VG ≤ PN := by decide
            omega
          have h9 : ∀ (ok : Nat → Prop) (φ : Nat → Nat × Nat) (v : Value) (x : Option DV), x = none → AV.rep ok φ w (.d (x.getD .any)) v := fun ok φ v x hx => by
            subst hx
            show DV.rep ok w .any v
            rw [DV.rep]; trivial
          exact h9 _ _ _ _ h4
    · rw [hc]
      exact .inr rfl
    · have hm : upd (fun _ => none) nm (some blk) m = some b := hm
      obtain rfl := hnm m (by rw [hm]; simp)
      rw [upd_same] at hm
      injection hm with hm
      subst hm
      exact hblk.keeps (Keeps.wide fun b hb _ => hok b hb) rfl
    · have hk : upd (upd (entry (.val (.func (.yield l) #[] #[]) :: (ca ++ .any :: cb))).fr p (.ptr nm 0)) VG (cntV 0) VG = .d (.val (.int .i64 (k : Int))) := hk
      rw [upd_same] at hk
      have hk0 : k = 2 * 0 := by
        unfold cntV at hk
        injection hk with hk; injection hk with hk; injection hk with _ hk
        omega
      subst hk0
      refine ⟨K0, ?_, fun m hm hb => (((hK0 _).1 hb).2 rfl), fun b hb => ((hK0 b).1 hb).1, fun D hD => by rw [ha0] at hD; cases hD⟩
      rw [hc]
      exact ⟨J2.even.2 hJ0, fun b hb => ⟨((hK0 b).1 hb).1, ((hK0 b).1 hb).2, fun h => h⟩⟩
  have hitr : Itr P (itF w (J2 J Jx) (sJ.J2 sJx) fz0 fn.ntmps) l xs fin := ⟨w, J, Jx, sJ.J2 sJx, fz0, fn.ntmps, rfl, hnv, hY⟩
  rw [← ha0]
  rw [hc] at hR
  refine wpIn_mono ((h _ _ _ _ l hitr).run _ _ _ ⟨_, ⟨w, fz0, fun b => b = g, rfl, SameW.refl w⟩, hR⟩) ?_
  rintro e a w' ⟨t, φ, hq, c', ⟨w1, ok1, ex1, rfl, hsw⟩, hR'⟩
  have fin' : ((fin = true ∧ t.fr VG = cntV xs.length) ∨ ∃ k, t.fr VG = stpV k) → LeavesInM Fence.wide 0 P fn a.tmps (fun e w' => (∃ v, e = .returned v) ∧ SameW w w' ∧ ∃ K', (∀ b, K' b → b < w'.heap.size) ∧ (J xs.length K' w' ∨ ∃ k, Jx k K' w')) a.defers .returning w' := by
    intro hq
    refine hR'.leaves fun w2 hR2 => ?_
    refine ⟨.tuple #[], ?_, ⟨_, rfl⟩, hsw.trans hR2.below.same, ?_⟩
    · unfold results
      rw [hres]
      simp
    · rcases hq with ⟨_, hq⟩ | ⟨k, hq⟩
      · obtain ⟨K, h1, _, h3, _⟩ := hR2.gh _ hq
        exact ⟨K, h3, .inl (J2.even.1 h1.1)⟩
      · obtain ⟨K, h1, _, h3, _⟩ := hR2.gh _ hq
        exact ⟨K, h3, .inr ⟨k, J2.odd.1 h1.1⟩⟩
  cases e with
  | normal => exact fin' hq
  | ret => exact fin' hq
  | exit id => exact hq.elim
  | goto l => exact hq.elim
  | panic ch => exact hq.elim
  | outgrown => exact hq.elim

end Go.Proofs.YtfcfmpdpjmbcnaaGreatDoor

/- strings.Index, TrimPrefix; the closure of strings.SplitSeq yields the pieces. -/
namespace Go.Proofs.YtfcfmpdpjmbcnaaGreatDoor
open Go.RowKit
set_option maxRecDepth 20000
set_option maxHeartbeats 4000000

theorem index_A (l : List UInt8) (c : UInt8) (hl : l.length ≤ 1000000) : AC Tryz.prog 141 [T8 l, T8 [c]] (I (Lib.index l [c])) := fun ok w vs hv hG => by
  have hv := repL_vals_eq (us := [.string ⟨l.toArray⟩, .string ⟨[c].toArray⟩]) hv
  subst hv
  obtain ⟨m, hm⟩ := hG.is.mxl
  have hg : Tryz.prog.globalNamed "internal/bytealg.MaxLen" = some 2 := by kernel_rfl
  have hm0 := World.var?_cell hg hm 0
  refine (Tryz.strings_Index ⟨l.toArray⟩ ⟨[c].toArray⟩ m w (by rw [T8_size]; omega) (by simpa using hm0)).mono fun e w' ⟨he, hw⟩ => ⟨_, he, ?_, ?_⟩
  · rw [T8_list, T8_list]
    exact rep_val.2 rfl
  · rw [hw]; exact Below.refl _ _
theorem trimPrefix_A (l p : List UInt8) : AC Tryz.prog 97 [T8 l, T8 p] (T8 (Lib.trimPrefix l p)) := fun ok w vs hv hG => by
  have hv := repL_vals_eq (us := [.string ⟨l.toArray⟩, .string ⟨p.toArray⟩]) hv
  subst hv
  refine (Tryz.strings_TrimPrefix ⟨l.toArray⟩ ⟨p.toArray⟩ w).mono fun e w' ⟨he, hw⟩ => ⟨_, he, ?_, ?_⟩
  · rw [T8_list, T8_list]
    exact rep_val.2 rfl
  · rw [hw]; exact Below.refl _ _
theorem drop_one {α : Type} {xs : List α} {k : Nat} {y : α} {ys : List α} (h : xs.drop k = y :: ys) : xs[k]? = some y ∧ xs.drop (k + 1) = ys := by
  have h1 := List.getElem?_drop (xs := xs) (i := k) (j := 0)
  rw [h] at h1
  refine ⟨h1.symm, ?_⟩
  rw [← List.drop_drop, h]; rfl
def seqY (c : UInt8) (s : List UInt8) : List YA := (cutA c [] s).map fun p => .gv [T8 p]
theorem splitSeq1_P (s : List UInt8) (c : UInt8) (hs : s.length ≤ 1000000) : AYp Tryz.prog 139 [.ref [T8 [c]]] ⟨9, [T8 s]⟩ [.ref [I 0]] (seqY c s) true := by
  refine ayp_body 2 2 Tryz.func139 rfl rfl (by kernel_rfl) rfl fun w0 J sJ fz0 l hI => ?_
  show AWp _ (itF w0 J sJ fz0 _) _ (YRet _ _) (entryP _ _ _ _ _ _)
  have hget : ∀ {k : Nat} {p : List UInt8}, (cutA c [] s)[k]? = some p → (seqY c s)[k]? = some (.gv [T8 p]) := fun {k p} h => by
    unfold seqY
    rw [List.getElem?_map, h]; rfl
  have hlen : (seqY c s).length = (cutA c [] s).length := by unfold seqY; rw [List.length_map]
  (repeat' (first | (with_reducible first | intro hg | refine mv (by constructor) ?_) | ((with_reducible first | refine zR ?_ ?_ | refine zW mixed ?_ ?_); exact kr) | ((with_reducible apply zK); exact rfl; exact tf) | ((with_reducible apply zCD); exact rfl) | ((with_reducible apply zCN); exact rfl) | ((with_reducible apply zC); exact rfl) | ((with_reducible refine zX ?_ ?_); exact rfl) | ((with_reducible refine zE (And.intro ?_ ?_)); exact kr) | (with_reducible refine zE ?_) | ((with_reducible apply zP); (first | exact o_lenT8 rfl | exact dp)) | ((with_reducible apply zN); exact dn) | ((with_reducible apply zA); exact da) | ((with_reducible apply zS); exact ds) | ((with_reducible apply zY); exact rfl; exact rfl; exact tf) | ((with_reducible apply zG); exact rfl; exact rfl; exact tf) | ((with_reducible apply zU); exact rfl; exact rfl) | ((with_reducible apply zD); exact rfl; exact rfl) | ((with_reducible apply zB); exact rfl; exact rfl)))
  refine awp_loopL (α := Nat × List UInt8) (fun x => [(0, .d (.val (.func (.yield l) #[] #[]))), (1, .d (.ref [T8 [c]])), (2, .ptr 2 0), (3, .d (.ref [I 0])), (VG, cntV x.1)]) (fun x => [(2, ⟨9, [T8 x.2]⟩)])
    (fun x => (cutA c [] s).drop x.1 = cutA c [] x.2 ∧ x.2.length ≤ s.length) (fun x => x.2.length) (0, s) ⟨rfl, Nat.le_refl _⟩ (And.intro rfl (And.intro rfl (And.intro rfl (And.intro rfl (And.intro rfl trivial))))) (And.intro rfl trivial) fun ⟨k, r⟩ ⟨hd, hr⟩ => ?_
  have hd : (cutA c [] s).drop k = cutA c [] r := hd
  have hr : r.length ≤ s.length := hr
  have hix := index_A r c (by omega)
  rcases cutA_idx c r [] with ⟨h1, h2⟩ | ⟨i, h1, h2, h3⟩
  · rw [h1] at hix
    rw [h2, List.nil_append] at hd
    obtain ⟨d1, d2⟩ := drop_one hd
    have hend : k + 1 = (seqY c s).length := by
      have e1 := congrArg List.length d2
      rw [List.length_drop] at e1
      have e2 := (List.getElem?_eq_some_iff.1 d1).1
      rw [hlen]
      simp only [List.length_nil] at e1
      omega
    have hg := hget d1
    clear hget hlen hd d1 d2 h1 h2
    (repeat' ((fail_if_success (with_reducible show AWp _ _ (.region 10 _ _) _ _)); (first | (with_reducible first | intro hg | refine mv (by constructor) ?_) | ((with_reducible first | refine zR ?_ ?_ | refine zW mixed ?_ ?_); exact kr) | ((with_reducible apply zK); exact rfl; exact tf) | ((with_reducible apply zCD); exact rfl) | ((with_reducible apply zCN); exact rfl) | ((with_reducible apply zC); exact rfl) | ((with_reducible refine zX ?_ ?_); exact rfl) | ((with_reducible refine zE (And.intro ?_ ?_)); exact kr) | (with_reducible refine zE ?_) | ((with_reducible apply zP); (first | exact dp | exact oc rfl (hix))) | ((with_reducible apply zN); exact dn) | ((with_reducible apply zA); exact da) | ((with_reducible apply zS); exact ds) | ((with_reducible apply zY); exact rfl; exact rfl; exact tf) | ((with_reducible apply zG); exact rfl; exact rfl; exact tf) | ((with_reducible apply zU); exact rfl; exact rfl) | ((with_reducible apply zD); exact rfl; exact rfl) | ((with_reducible apply zB); exact rfl; exact rfl))))
    refine awp_yield hI (pre := [_, _]) (post := []) (by rfl) (by kernel_rfl) k _ hg ?_
    (repeat' (first | (with_reducible first | intro hg | refine mv (by constructor) ?_) | ((with_reducible first | refine zR ?_ ?_ | refine zW mixed ?_ ?_); exact kr) | ((with_reducible apply zK); exact rfl; exact tf) | ((with_reducible apply zCD); exact rfl) | ((with_reducible apply zCN); exact rfl) | ((with_reducible apply zC); exact rfl) | ((with_reducible refine zX ?_ ?_); exact rfl) | ((with_reducible refine zE (And.intro ?_ ?_)); exact kr) | (with_reducible refine zE ?_) | ((with_reducible apply zP); exact dp) | ((with_reducible apply zN); exact dn) | ((with_reducible apply zA); exact da) | ((with_reducible apply zS); exact ds) | ((with_reducible apply zY); exact rfl; exact rfl; exact tf) | ((with_reducible apply zG); exact rfl; exact rfl; exact tf) | ((with_reducible apply zU); exact rfl; exact rfl) | ((with_reducible apply zD); exact rfl; exact rfl) | ((with_reducible apply zB); exact rfl; exact rfl)))
    refine ⟨rfl, .gv rfl rfl, rfl, ?_, ?_⟩
    · (repeat' (first | (with_reducible first | intro hg | refine mv (by constructor) ?_) | ((with_reducible first | refine zR ?_ ?_ | refine zW mixed ?_ ?_); exact kr) | ((with_reducible apply zK); exact rfl; exact tf) | ((with_reducible apply zCD); exact rfl) | ((with_reducible apply zCN); exact rfl) | ((with_reducible apply zC); exact rfl) | ((with_reducible refine zX ?_ ?_); exact rfl) | ((with_reducible refine zE (And.intro ?_ ?_)); exact kr) | (with_reducible refine zE ?_) | ((with_reducible apply zP); exact dp) | ((with_reducible apply zN); exact dn) | ((with_reducible apply zA); exact da) | ((with_reducible apply zS); exact ds) | ((with_reducible apply zY); exact rfl; exact rfl; exact tf) | ((with_reducible apply zG); exact rfl; exact rfl; exact tf) | ((with_reducible apply zU); exact rfl; exact rfl) | ((with_reducible apply zD); exact rfl; exact rfl) | ((with_reducible apply zB); exact rfl; exact rfl)))
      exact .inl ⟨rfl, by rw [← hend]; rfl⟩
    · (repeat' (first | (with_reducible first | intro hg | refine mv (by constructor) ?_) | ((with_reducible first | refine zR ?_ ?_ | refine zW mixed ?_ ?_); exact kr) | ((with_reducible apply zK); exact rfl; exact tf) | ((with_reducible apply zCD); exact rfl) | ((with_reducible apply zCN); exact rfl) | ((with_reducible apply zC); exact rfl) | ((with_reducible refine zX ?_ ?_); exact rfl) | ((with_reducible refine zE (And.intro ?_ ?_)); exact kr) | (with_reducible refine zE ?_) | ((with_reducible apply zP); exact dp) | ((with_reducible apply zN); exact dn) | ((with_reducible apply zA); exact da) | ((with_reducible apply zS); exact ds) | ((with_reducible apply zY); exact rfl; exact rfl; exact tf) | ((with_reducible apply zG); exact rfl; exact rfl; exact tf) | ((with_reducible apply zU); exact rfl; exact rfl) | ((with_reducible apply zD); exact rfl; exact rfl) | ((with_reducible apply zB); exact rfl; exact rfl)))
      exact .inr ⟨_, rfl⟩
  · rw [h1] at hix
    rw [h3, List.nil_append] at hd
    obtain ⟨d1, d2⟩ := drop_one hd
    have hg := hget d1
    clear hget hlen hd d1 h1 h3
    have hri : (r.drop (i + 1)).length < r.length := by rw [List.length_drop]; omega
    have hc1 : ([c] : List UInt8).length = 1 := rfl
    (repeat' ((fail_if_success (with_reducible show AWp _ _ (.region 8 _ _) _ _)); (first | (with_reducible first | intro hg | refine mv (by constructor) ?_) | ((with_reducible first | refine zR ?_ ?_ | refine zW mixed ?_ ?_); exact kr) | ((with_reducible apply zK); exact rfl; exact tf) | ((with_reducible apply zCD); exact rfl) | ((with_reducible apply zCN); exact rfl) | ((with_reducible apply zC); exact rfl) | ((with_reducible refine zX ?_ ?_); exact rfl) | ((with_reducible refine zE (And.intro ?_ ?_)); exact kr) | (with_reducible refine zE ?_) | ((with_reducible apply zP); (first | exact o_sliceTH (a := r) (j := i) rfl rfl (by omega) | exact dp | exact oc rfl (hix))) | ((with_reducible apply zN); exact dn) | ((with_reducible apply zA); exact da) | ((with_reducible apply zS); exact ds) | ((with_reducible apply zY); exact rfl; exact rfl; exact tf) | ((with_reducible apply zG); exact rfl; exact rfl; exact tf) | ((with_reducible apply zU); exact rfl; exact rfl) | ((with_reducible apply zD); exact rfl; exact rfl) | ((with_reducible apply zB); exact rfl; exact rfl))))
    refine awp_yield hI (pre := [_, _]) (post := [_]) (by rfl) (by kernel_rfl) k _ hg ?_
    (repeat' (first | (with_reducible first | intro hg | refine mv (by constructor) ?_) | ((with_reducible first | refine zR ?_ ?_ | refine zW mixed ?_ ?_); exact kr) | ((with_reducible apply zK); exact rfl; exact tf) | ((with_reducible apply zCD); exact rfl) | ((with_reducible apply zCN); exact rfl) | ((with_reducible apply zC); exact rfl) | ((with_reducible refine zX ?_ ?_); exact rfl) | ((with_reducible refine zE (And.intro ?_ ?_)); exact kr) | (with_reducible refine zE ?_) | ((with_reducible apply zP); exact dp) | ((with_reducible apply zN); exact dn) | ((with_reducible apply zA); exact da) | ((with_reducible apply zS); exact ds) | ((with_reducible apply zY); exact rfl; exact rfl; exact tf) | ((with_reducible apply zG); exact rfl; exact rfl; exact tf) | ((with_reducible apply zU); exact rfl; exact rfl) | ((with_reducible apply zD); exact rfl; exact rfl) | ((with_reducible apply zB); exact rfl; exact rfl)))
    refine ⟨rfl, .gv rfl rfl, rfl, ?_, ?_⟩
    rotate_left
    · (repeat' (first | (with_reducible first | intro hg | refine mv (by constructor) ?_) | ((with_reducible first | refine zR ?_ ?_ | refine zW mixed ?_ ?_); exact kr) | ((with_reducible apply zK); exact rfl; exact tf) | ((with_reducible apply zCD); exact rfl) | ((with_reducible apply zCN); exact rfl) | ((with_reducible apply zC); exact rfl) | ((with_reducible refine zX ?_ ?_); exact rfl) | ((with_reducible refine zE (And.intro ?_ ?_)); exact kr) | (with_reducible refine zE ?_) | ((with_reducible apply zP); exact dp) | ((with_reducible apply zN); exact dn) | ((with_reducible apply zA); exact da) | ((with_reducible apply zS); exact ds) | ((with_reducible apply zY); exact rfl; exact rfl; exact tf) | ((with_reducible apply zG); exact rfl; exact rfl; exact tf) | ((with_reducible apply zU); exact rfl; exact rfl) | ((with_reducible apply zD); exact rfl; exact rfl) | ((with_reducible apply zB); exact rfl; exact rfl)))
      exact .inr ⟨_, rfl⟩
    · (repeat' (first | (with_reducible first | intro hg | refine mv (by constructor) ?_) | ((with_reducible first | refine zR ?_ ?_ | refine zW mixed ?_ ?_); exact kr) | ((with_reducible apply zK); exact rfl; exact tf) | ((with_reducible apply zCD); exact rfl) | ((with_reducible apply zCN); exact rfl) | ((with_reducible apply zC); exact rfl) | ((with_reducible refine zX ?_ ?_); exact rfl) | ((with_reducible refine zE (And.intro ?_ ?_)); exact kr) | (with_reducible refine zE ?_) | ((with_reducible apply zP); (first | exact o_lenT8 rfl | exact o_sliceTL (a := r) (i := i + 1) rfl rfl (by omega) | exact dp)) | ((with_reducible apply zN); exact dn) | ((with_reducible apply zA); exact da) | ((with_reducible apply zS); exact ds) | ((with_reducible apply zY); exact rfl; exact rfl; exact tf) | ((with_reducible apply zG); exact rfl; exact rfl; exact tf) | ((with_reducible apply zU); exact rfl; exact rfl) | ((with_reducible apply zD); exact rfl; exact rfl) | ((with_reducible apply zB); exact rfl; exact rfl)))
      exact ⟨(k + 1, r.drop (i + 1)), ⟨d2, Nat.le_trans (Nat.le_of_lt hri) hr⟩, hri, (And.intro rfl (And.intro rfl (And.intro rfl (And.intro rfl (And.intro rfl trivial))))), (And.intro rfl trivial)⟩

end Go.Proofs.YtfcfmpdpjmbcnaaGreatDoor

/- Contracts: a function value that has captured the address of a block of its own. SplitSeq. -/
namespace Go.Proofs.YtfcfmpdpjmbcnaaGreatDoor
open Go.RowKit
set_option maxRecDepth 20000
set_option maxHeartbeats 4000000

abbrev ptrC (g : Nat) : DV := .val (.pointer (some ⟨g, 0, none⟩))
def ACp (P : Program) (f : FuncId) (args : List DV) (t : TypeId) (cs : List DV) (r : DV → DV) : Prop :=
  ∀ (ok : Nat → Prop) (w : World) (vs : List Value), DV.repL ok w args vs → ∀ [GlobI w], Calls P f vs.toArray w fun e w' => ∃ g sz v, e = .returned v ∧ (r (ptrC g)).rep (fun b => ok b ∨ (w.heap.size ≤ b ∧ b ≠ g)) w' v ∧ w.heap.size ≤ g ∧
    BlkAt (fun b => ok b ∨ (w.heap.size ≤ b ∧ b ≠ g)) w' (g, sz) ⟨t, cs⟩ ∧ Below w.heap.size w w'
def ARetP (rs : List ResultVar) (t : TypeId) (cs : List DV) (r : DV → DV) : Exit → AS → Prop
  | .normal, s | .ret, s => ∃ i nm, rs = [.tmp i] ∧ s.ev (.tmp i) = .dep nm nm (fun a _ => r (ptrC a.1)) ∧ s.mem nm = some ⟨t, cs⟩
  | _, _ => False
theorem acp_body {P : Program} {f : FuncId} {fn : Func} {code : Code} {args : List DV} {rt : TypeId} {cs : List DV} {r : DV → DV} (hf : P.funcs[f]? = some fn) (hb : fn.body = some code) (hn : (Nat.ble args.length fn.ntmps && Nat.ble fn.ntmps VG) = true) (h : ∀ w0 ok, AWp P (ctx0 w0 ok fn.ntmps) code (ARetP fn.results.toList rt cs r) (entry args)) : ACp P f args rt cs r := by
  intro ok w vs hr hgl
  refine callsIn_wide.1 (callsIn_of_wp_marks (F := Fence.wide) (n := 0) hf hb trivial ?_)
  have hR : R (kx w ok fn.ntmps) (entry args) (fun _ => (0, 0)) { tmps := vs.toArray ++ Array.replicate (fn.ntmps - vs.toArray.size) undef, defers := [] } w := entry_R rfl hn (fun _ _ _ h => h) hr (fun _ => rfl) hgl.is (fun _ _ h => h)
  refine wpIn_mono ((h w ok).run _ _ _ (RF.one.2 hR)) fun e a w' ⟨t, φ, hq, hR'⟩ => ?_
  replace hR' := RF.one.1 hR'
  have fin : (∃ i nm, fn.results.toList = [.tmp i] ∧ t.ev (.tmp i) = .dep nm nm (fun a _ => r (ptrC a.1)) ∧ t.mem nm = some ⟨rt, cs⟩) → LeavesInM Fence.wide 0 P fn a.tmps (fun e w' => ∃ g sz v, e = .returned v ∧ (r (ptrC g)).rep (fun b => ok b ∨ (w.heap.size ≤ b ∧ b ≠ g)) w' v ∧ w.heap.size ≤ g ∧
      BlkAt (fun b => ok b ∨ (w.heap.size ≤ b ∧ b ≠ g)) w' (g, sz) ⟨rt, cs⟩ ∧ Below w.heap.size w w') a.defers .returning w' := by
    rintro ⟨i, nm, hres, hfr, hmem⟩
    refine hR'.leaves fun w2 hR2 => ?_
    have h1 := hR2.ev (.tmp i)
    rw [hfr] at h1
    have hwide : ∀ b, okOf (kx w ok fn.ntmps) φ t b → ok b ∨ (w.heap.size ≤ b ∧ b ≠ (φ nm).1) := fun b hb => by
      rcases hb with hb | hb
      · exact .inl hb.2.1
      · exact .inr ⟨hb.1.resolve_right (fun h => h), fun e => hb.2 nm (by rw [hmem]; simp) e.symm⟩
    have h1 : DV.rep (okOf (kx w ok fn.ntmps) φ t) w2 (r (ptrC (φ nm).1)) (a.tmps.getD i undef) := h1
    refine ⟨_, ?_, (φ nm).1, (φ nm).2, _, rfl, DV.rep_keeps (Keeps.wide fun b hb _ => hwide b hb) _ _ h1, (hR2.own nm _ hmem).resolve_right (fun h => h), ?_, hR2.below.all fun _ h => h⟩
    · have hra : fn.results = #[.tmp i] := by rw [← Array.toArray_toList (xs := fn.results), hres]
      have hm1 : ((#[ResultVar.tmp i] : Array ResultVar).mapM (m := Sem) fun | .tmp t => pure (a.tmps.getD t undef) | .cell x t => do loadVar t (← asAddr (a.tmps.getD x undef))).run P w2 = .ok #[a.tmps.getD i undef] w2 := by
        rw [List.mapM_toArray, Sem.run_map]
        simp
      unfold results
      rw [hra, Sem.run_bind]
      refine (congrArg (fun r => Result.andThen r _) hm1).trans ?_
      simp
    · obtain ⟨us, ex, b1, b2, b3, b4⟩ := hR2.mem nm _ hmem
      exact ⟨us, ex, b1, b2, b3, DV.repL_keeps (Keeps.wide fun b hb _ => hwide b hb) _ _ b4⟩
  cases e with
  | normal => exact fin hq
  | ret => exact fin hq
  | exit id => exact hq.elim
  | goto l => exact hq.elim
  | panic ch => exact hq.elim
  | outgrown => exact hq.elim
theorem o_makeFuncP {P : Program} {s : AS} {dst : Option Tmp} {ty : TypeId} {ps : String} {af : Array Edge} {f : Fn} {x y z : Operand} {d1 d2 : DV} {nm : Nat} (hx : s.ev x = .d d1) (hy : s.ev y = .ptr nm 0) (hz : s.ev z = .d d2) (gd : Option (Nat × Bool)) : Does P ⟨dst, .makeFunc f #[] #[x, y, z], ty, ps, af, gd⟩ s [] (.put (.dep nm nm fun a _ => .fn f [] [d1, ptrC a.1, d2])) :=
  does_pure fun c s' φ a w hR hop => by
    have h1 := ge_d hR (hop x (by simp [Op.operands])) hx
    have h3 := ge_d hR (hop z (by simp [Op.operands])) hz
    have h2 : a.eval y = .pointer (some ⟨(φ nm).1, 0, none⟩) := ge_ptr hR (hop y (by simp [Op.operands])) hy
    refine ⟨.func f #[] #[a.eval x, a.eval y, a.eval z], ?_, ?_⟩
    · simp [execOp, Instr.makeFunc, Sem.run_bind, Sem.run_pure, Result.andThen_ok]
    · show DV.rep _ w (.fn f [] [d1, ptrC (φ nm).1, d2]) _
      rw [DV.rep]
      refine ⟨[], [a.eval x, a.eval y, a.eval z], rfl, repL_nil.2 rfl, repL_cons'.2 ⟨h1, repL_cons'.2 ⟨?_, repL_cons'.2 ⟨h3, repL_nil.2 rfl⟩⟩⟩⟩
      rw [h2]
      exact rep_val.2 rfl
abbrev seqF (c : UInt8) (p : DV) : DV := .fn (.func 139) [] [.ref [T8 [c]], p, .ref [I 0]]
theorem splitSeq_P (s : List UInt8) (c : UInt8) : ACp Tryz.prog 98 [T8 s, T8 [c], I 0] 9 [T8 s] (seqF c) := by
  refine acp_body Tryz.func98 rfl (by kernel_rfl) fun w0 ok => ?_
  show AWp _ (ctx0 w0 ok _) _ (ARetP _ _ _ _) (entry _)
  (repeat' ((fail_if_success (with_reducible show AWp _ _ (.region 1 _ _) _ _)); (first | (with_reducible first | intro hg | refine mv (by constructor) ?_) | ((with_reducible first | refine zR ?_ ?_ | refine zW mixed ?_ ?_); exact kr) | ((with_reducible apply zK); exact rfl; exact tf) | ((with_reducible apply zCD); exact rfl) | ((with_reducible apply zCN); exact rfl) | ((with_reducible apply zC); exact rfl) | ((with_reducible refine zX ?_ ?_); exact rfl) | ((with_reducible refine zE (And.intro ?_ ?_)); exact kr) | (with_reducible refine zE ?_) | ((with_reducible apply zP); exact dp) | ((with_reducible apply zN); exact dn) | ((with_reducible apply zA); exact da) | ((with_reducible apply zS); exact ds) | ((with_reducible apply zY); exact rfl; exact rfl; exact tf) | ((with_reducible apply zG); exact rfl; exact rfl; exact tf) | ((with_reducible apply zU); exact rfl; exact rfl) | ((with_reducible apply zD); exact rfl; exact rfl) | ((with_reducible apply zB); exact rfl; exact rfl))))
  refine awp_freeze 4 (blk := ⟨9, [T8 [c]]⟩) rfl ?_
  refine awp_freeze 5 (blk := ⟨3, [I 0]⟩) rfl ?_
  (repeat' (first | (with_reducible first | intro hg | refine mv (by constructor) ?_) | ((with_reducible first | refine zR ?_ ?_ | refine zW mixed ?_ ?_); exact kr) | ((with_reducible apply zK); exact rfl; exact tf) | ((with_reducible apply zCD); exact rfl) | ((with_reducible apply zCN); exact rfl) | ((with_reducible apply zC); exact rfl) | ((with_reducible refine zX ?_ ?_); exact rfl) | ((with_reducible refine zE (And.intro ?_ ?_)); exact kr) | (with_reducible refine zE ?_) | ((with_reducible apply zP); (first | exact o_makeFuncP rfl rfl rfl | exact o_assign (r := .dep _ _ _) rfl | exact dp)) | ((with_reducible apply zN); exact dn) | ((with_reducible apply zA); exact da) | ((with_reducible apply zS); exact ds) | ((with_reducible apply zY); exact rfl; exact rfl; exact tf) | ((with_reducible apply zG); exact rfl; exact rfl; exact tf) | ((with_reducible apply zU); exact rfl; exact rfl) | ((with_reducible apply zD); exact rfl; exact rfl) | ((with_reducible apply zB); exact rfl; exact rfl)))
  exact ⟨6, 3, rfl, rfl, rfl⟩
theorem new_oks {c : Ctx} {s : AS} {φ : Nat → Nat × Nat} {a : Act} {w : World} (h : R c s φ a w) {d g n : Nat} (hg : w.heap.size ≤ g) {blk : Blk} {r : AV} : ∀ b, okNew c s φ w g b → okOf c (upd φ d (g, n)) (s.newBlk d blk r) b := by
  have hbs := h.below.size
  have hne : ∀ m, m ≠ d → upd φ d (g, n) m = φ m := fun m hm => upd_ne _ _ hm
  have hmem : ∀ m, m ≠ d → (s.newBlk d blk r).mem m = s.mem m := fun m hm => upd_ne _ _ hm
  intro b hb1
  rcases hb1 with ⟨hb1 | ⟨hb1, hb2⟩, hl⟩ | ⟨hb1, hb2⟩
  · exact .inl hb1
  · refine .inr ⟨hb1, fun nm hnm => ?_⟩
    by_cases hn : nm = d
    · subst hn; rw [upd_same]; simp only; omega
    · rw [hne nm hn]
      exact hb2 nm (by rw [hmem nm hn] at hnm; exact hnm)
  · refine .inr ⟨.inl (by omega), fun nm hnm => ?_⟩
    by_cases hn : nm = d
    · subst hn; rw [upd_same]; exact fun e => hb2 e.symm
    · rw [hne nm hn]
      have := h.lt (show s.mem nm ≠ none by rw [hmem nm hn] at hnm; exact hnm)
      omega
theorem o_callP {P : Program} {s : AS} {d : Nat} {ty : TypeId} {ps : String} {af : Array Edge} {f : FuncId} {args : Array Operand} {ats : Array TypeId} {dvs : List DV} {e : TypeId} {cs : List DV} {r : DV → DV} [he : EntI P f] (hv : viewL s args.toList = some (dvs, [])) (hA : ACp P f dvs e cs r) (gd : Option (Nat × Bool)) :
    Does P ⟨some d, .call ⟨.value (.func f), args, ats⟩, ty, ps, af, gd⟩ s [] (.newBlk ⟨e, cs⟩ (.dep d d fun a _ => r (ptrC a.1))) :=
  ⟨fun c s' φ a w K Q hR hop hrd hd _ hK => by
    unfold Oper.wp
    rw [run_callFn he.eq]
    haveI : GlobI w := ⟨hR.below.glob⟩
    show Calls P f (args.map a.eval) w _
    have hops : ∀ x ∈ args.toList, ge (s'.ev x) (s.ev x) := fun x hx => hop x (by
      show x ∈ #[Operand.func f] ++ args
      exact Array.mem_append.2 (.inr (by simpa using hx)))
    have hargs : args.map a.eval = (args.toList.map a.eval).toArray := by rw [← Array.toList_map, Array.toArray_toList]
    rw [hargs]
    refine (hA (fun b => okOf c φ s' b ∧ b < w.heap.size) w _ (viewL_rep hR args.toList dvs [] hops hv hrd (fun b h1 h2 => ⟨h1, h2⟩) (fun h => absurd rfl h))).mono ?_
    rintro _ w' ⟨g, sz, v, rfl, hr, hg, hblk, hb⟩
    refine hK _ _ _ (hR.newBlk hb (hd d rfl) hg hblk ?_)
    show DV.rep _ w' (r (ptrC ((upd φ d (g, sz)) d).1)) v
    rw [upd_same]
    exact DV.rep_keeps (Keeps.wide fun b hb _ => new_oks hR hg b hb) _ _ hr⟩
theorem splitSeq2_P (s : List UInt8) (c : UInt8) : ACp Tryz.prog 45 [T8 s, T8 [c]] 9 [T8 s] (seqF c) := by
  have h := splitSeq_P s c
  refine acp_body Tryz.func45 rfl (by kernel_rfl) fun w0 ok => ?_
  show AWp _ (ctx0 w0 ok _) _ (ARetP _ _ _ _) (entry _)
  (repeat' (first | (with_reducible first | intro hg | refine mv (by constructor) ?_) | ((with_reducible first | refine zR ?_ ?_ | refine zW mixed ?_ ?_); exact kr) | ((with_reducible apply zK); exact rfl; exact tf) | ((with_reducible apply zCD); exact rfl) | ((with_reducible apply zCN); exact rfl) | ((with_reducible apply zC); exact rfl) | ((with_reducible refine zX ?_ ?_); exact rfl) | ((with_reducible refine zE (And.intro ?_ ?_)); exact kr) | (with_reducible refine zE ?_) | ((with_reducible apply zP); (first | exact o_assign (r := .dep _ _ _) rfl | exact dp)) | ((with_reducible apply zN); (first | exact dn | exact o_callP rfl h)) | ((with_reducible apply zA); exact da) | ((with_reducible apply zS); exact ds) | ((with_reducible apply zY); exact rfl; exact rfl; exact tf) | ((with_reducible apply zG); exact rfl; exact rfl; exact tf) | ((with_reducible apply zU); exact rfl; exact rfl) | ((with_reducible apply zD); exact rfl; exact rfl) | ((with_reducible apply zB); exact rfl; exact rfl)))
  exact ⟨4, 7, rfl, rfl, rfl⟩

end Go.Proofs.YtfcfmpdpjmbcnaaGreatDoor

/- A range over a function that has captured a block of its own. -/
namespace Go.Proofs.YtfcfmpdpjmbcnaaGreatDoor
open Go.RowKit

theorem RK.ofP {w0 : World} {ok : Nat → Prop} {nt : Nat} {t t' : AS} {φ : Nat → Nat × Nat} {a : Act} {W : World} (h : R (kx w0 ok nt) t φ a W) {n : Nat} {blk : Blk} (hn : t.mem n = some blk) (hl : t.le t') (hn' : t'.mem n = none) :
    RK (kx w0 ok nt) (fun b => b < W.heap.size ∧ b ≠ (φ n).1) t' φ a W := by
  have hnn : t.mem n ≠ none := by rw [hn]; simp
  have hown : w0.heap.size ≤ (φ n).1 := (h.own n _ hn).resolve_right fun h => h
  have hm : ∀ m, t'.mem m ≠ none → t.mem m ≠ none := fun m hm => by
    cases hb : t'.mem m with
    | none => exact absurd hb hm
    | some b => rw [hl.mem m b hb]; simp
  have hk : Keeps (okOf (kx w0 ok nt) φ t) W (kok (kx w0 ok nt) φ t' fun b => b < W.heap.size ∧ b ≠ (φ n).1) W := Keeps.wide fun b hb hlt => by
    rcases hb with hb | ⟨hb, hb2⟩
    · exact ⟨.inl hb, hlt, fun e => absurd (e ▸ hb.1 : (φ n).1 < w0.heap.size) (Nat.not_lt.2 hown)⟩
    · exact ⟨.inr ⟨hb, fun m hx => hb2 m (hm m hx)⟩, hlt, fun e => hb2 n hnn e.symm⟩
  have hR' := h.weaken hl
  have hbase := RK.ofR hR'
  refine ⟨hbase.below, fun b hb => ⟨hbase.k0 b hb, fun e => absurd (e ▸ hb : (φ n).1 < w0.heap.size) (Nat.not_lt.2 hown)⟩, hbase.defers, fun D hD => ⟨hbase.kd D hD, fun e => ?_⟩, hbase.size, hbase.ntv, fun i hi => ?_, hbase.own, fun m hx => ⟨hbase.kn m hx, ?_⟩, fun m b hb => (h.mem m b (hl.mem m b hb)).keeps hk rfl, hbase.inj, hbase.gl⟩
  · obtain ⟨Ds, h1, _, h3⟩ := h.defers
    rw [h1] at hD
    obtain ⟨E, hE, he⟩ := List.mem_map.1 hD
    injection he with he1 _
    injection he1 with he2
    subst he2
    have h4 := (h3 _ hE).2
    obtain ⟨us, ex, h5, _⟩ := h.mem n _ hn
    rw [e, h5] at h4
    cases h4
  · rcases hl.fr i with e | e
    · rw [e]; simp only [AV.rep, DV.rep]
    · rw [e]; exact AV.rep_keeps hk (h.fr i hi)
  · by_cases e : m = n
    · subst e; exact absurd hn' hx
    · exact h.inj m n (hm m hx) hnn e

set_option maxRecDepth 20000
theorem awp_rangeFuncP {P : Program} {w0 : World} {ok : Nat → Prop} {nt : Nat} {Q : Exit → AS → Prop} {s : AS} {g : Operand} {psl : List Nat} {assign body : Code} {gf : FuncId} {d1 d2 : DV} {blk0 : Blk} {n0 : Nat} {xs : List YA} {fin : Bool} {α : Type} (st : Nat → α → AS) (I : Nat → α → Prop) (x0 : α)
    (he : Enters P gf) (hg : s.ev g = .dep n0 n0 fun a _ => .fn (.func gf) [] [d1, ptrC a.1, d2]) (hn0 : s.mem n0 = some blk0) (hdrop : (st 0 x0).mem n0 = none) (hAY : AYp P gf [d1] blk0 [d2] xs fin) (hI : I 0 x0) (h0 : s.le (st 0 x0)) (hps : ∀ p ∈ psl, p < nt) (hcnt : ∀ d ∈ xs, d.cnt = psl.length)
    (round : ∀ k x d, I k x → xs[k]? = some d → ∀ W ok' rd ex gv, AWp P (one (rctx W ok' nt rd ex gv)) assign (fun e t => e = .normal ∧ ∀ W', AWp P (one (rctx W' ok' nt rd ex gv)) body (RPost Q (fun u => ∃ y, I (k + 1) y ∧ u.le (st (k + 1) y)) d) t) (bodyS (st k x) psl d))
    (never : fin = false → ∀ x, ¬ I xs.length x) (after : fin = true → ∀ x, I xs.length x → Q .normal (st xs.length x)) : AWp P (ctx0 w0 ok nt) (.rangeFunc g psl.toArray assign body) Q s := ⟨fun φ a w hR => by
  replace hR := RF.one.1 hR
  refine wpIn_rangeFunc (F := fz none) (n := 0) fun fn _ => ?_
  obtain ⟨v1, v2, hgv0, hvs, hus⟩ : ∃ v1 v2 : Value, a.eval g = .func (.func gf) ([] : List Value).toArray [v1, .pointer (some ⟨(φ n0).1, 0, none⟩), v2].toArray ∧ DV.repL (okOf (kx w0 ok nt) φ s) w [d1] [v1] ∧ DV.repL (okOf (kx w0 ok nt) φ s) w [d2] [v2] := by
    have h1 := hR.ev g
    rw [hg] at h1
    have h1 : DV.rep (okOf (kx w0 ok nt) φ s) w (.fn (.func gf) [] [d1, ptrC (φ n0).1, d2]) (a.eval g) := h1
    rw [DV.rep] at h1
    obtain ⟨vs, us, e, h2, h3⟩ := h1
    rw [repL_nil] at h2
    subst h2
    obtain ⟨u1, us, rfl, k1, h3⟩ := repL_cons.1 h3
    obtain ⟨u2, us, rfl, k2, h3⟩ := repL_cons.1 h3
    obtain ⟨u3, us, rfl, k3, h3⟩ := repL_cons.1 h3
    rw [repL_nil] at h3
    subst h3
    have k2 := rep_val.1 k2
    subst k2
    exact ⟨u1, u3, e, repL_cons'.2 ⟨k1, repL_nil.2 rfl⟩, repL_cons'.2 ⟨k3, repL_nil.2 rfl⟩⟩
  obtain ⟨vs, hvs0⟩ : ∃ vs : List Value, vs = [] := ⟨_, rfl⟩
  obtain ⟨us, hus0⟩ : ∃ us : List Value, us = [v1, .pointer (some ⟨(φ n0).1, 0, none⟩), v2] := ⟨_, rfl⟩
  have hgv : a.eval g = .func (.func gf) vs.toArray us.toArray := by rw [hvs0, hus0]; exact hgv0
  have hnn0 : s.mem n0 ≠ none := by rw [hn0]; simp
  have hlt0 : (φ n0).1 < w.heap.size := hR.lt hnn0
  have hown0 : w0.heap.size ≤ (φ n0).1 := (hR.own n0 _ hn0).resolve_right fun h => h
  obtain ⟨rec, hrec⟩ : ∃ rec : LoopState → Option Code → Loop, rec = fun st pe => { state := st, pending := pe, fn, tmps := a.tmps, params := psl.toArray, assign, body, defers := w.heap.size } := ⟨_, rfl⟩
  obtain ⟨W1, hW1⟩ : ∃ W1, (w.alloc (.deferred (some []))).alloc (.loop (rec .ready none)) = W1 := ⟨_, rfl⟩
  have hsz1 : W1.heap.size = w.heap.size + 2 := by rw [← hW1]; simp
  have hL1 : W1.heap[w.heap.size + 1]? = some (.loop (rec .ready none)) := by
    rw [← hW1]; have := World.alloc_heap_new (w.alloc (.deferred (some []))) (.loop (rec .ready none)); rwa [World.size_alloc] at this
  have hD1 : W1.heap[w.heap.size]? = some (.deferred (some [])) := by
    rw [← hW1]; exact (Below.heap_alloc _ _ _ (by simp)).trans (World.alloc_heap_new w _)
  have hb1 : Below w.heap.size w W1 := by
    rw [← hW1]; exact ((Below.refl _ w).alloc (Nat.le_refl _) _).alloc (by simp) _
  have hR1 := (hR.below' hb1).weaken h0
  have hK1 := RK.ofP (hR.below' hb1) hn0 h0 hdrop
  have hw0 : w0.heap.size ≤ w.heap.size := hR.below.size
  have hmk : ({ target := .collected w.heap.size, args := #[] } : Deferred) ∉ a.defers := fun hm => Nat.lt_irrefl _ ((RK.ofR hR).kd _ hm)
  refine ⟨w.heap.size + 1, [{ target := .collected w.heap.size, args := #[] }], W1, { target := .fn (.func gf) us.toArray, args := vs.toArray ++ #[.func (.yield (w.heap.size + 1)) #[] #[]] }, W1, gf,
    vs.toArray ++ #[.func (.yield (w.heap.size + 1)) #[] #[]] ++ us.toArray, W1, ?_, ?_, fun _ _ => trivial, ?_, fun h => by simp [fz, Fence.wide] at h, ?_⟩
  · rw [← hW1, hrec]; exact run_enterLoop_outer _ _ _ _ _
  · simp only [resolve, hgv]
    simp [go_sem]
  · have he' : (callFunc gf (vs.toArray ++ #[.func (.yield (w.heap.size + 1)) #[] #[]] ++ us.toArray)).run P W1 = .ok (.enter gf (vs.toArray ++ #[.func (.yield (w.heap.size + 1)) #[] #[]] ++ us.toArray)) W1 := he _ W1
    simp [invoke, go_sem] at he' ⊢
    exact he'
  -- the iterator's contract
  have hfz : ∀ b, (okOf (kx w0 ok nt) φ s b ∧ b < w.heap.size) → b < W1.heap.size := fun b hb => by omega
  have hbs : DV.repL (fun b => okOf (kx w0 ok nt) φ s b ∧ b < w.heap.size) W1 [d1] [v1] := DV.repL_keeps ⟨fun b hb hl => ⟨hb, hl⟩, hb1.size, fun b o u _ hl hc => (hb1.cell (p := ⟨b, o, none⟩) hl).trans hc⟩ _ _ hvs
  have hcaps : DV.repL (fun b => okOf (kx w0 ok nt) φ s b ∧ b < w.heap.size) W1 [d2] [v2] := DV.repL_keeps ⟨fun b hb hl => ⟨hb, hl⟩, hb1.size, fun b o u _ hl hc => (hb1.cell (p := ⟨b, o, none⟩) hl).trans hc⟩ _ _ hus
  haveI : GlobI W1 := ⟨hR.below.glob.keeps fun b hb => hb1.block b (hR.below.glob.lt hb)⟩
  have hblk1 : BlkAt (fun b => okOf (kx w0 ok nt) φ s b ∧ b < w.heap.size) W1 ((φ n0).1, (φ n0).2) blk0 := (hR.mem n0 _ hn0).keeps ⟨fun b hb hl => ⟨hb, hl⟩, hb1.size, fun b o u _ hl hc => (hb1.cell (p := ⟨b, o, none⟩) hl).trans hc⟩ (hb1.block _ hlt0)
  have hng1 : ¬ (okOf (kx w0 ok nt) φ s (φ n0).1 ∧ (φ n0).1 < w.heap.size) := fun ⟨h1, _⟩ => by
    rcases h1 with ⟨h2, _⟩ | ⟨_, h2⟩
    · exact absurd h2 (Nat.not_lt.2 hown0)
    · exact h2 n0 hnn0 rfl
  have hgl1 : ¬ GBlk (φ n0).1 := fun h => absurd (hR.below.gl.1.lt h) (Nat.not_lt.2 hown0)
  have key := hAY (fun b => okOf (kx w0 ok nt) φ s b ∧ b < w.heap.size) W1 [v1] [v2] (φ n0).1 (φ n0).2 (w.heap.size + 1)
    (fun k K W => ∃ x φ', I k x ∧ RK (kx w0 ok nt) K (st k x) φ' a W ∧ (∀ b, named (st k x) φ' b → ¬ (okOf (kx w0 ok nt) φ s b ∧ b < w.heap.size)) ∧ W.heap[w.heap.size + 1]? = some (.loop (rec .ready none)) ∧ W.heap[w.heap.size]? = some (.deferred (some [])) ∧ K (w.heap.size + 1) ∧ K w.heap.size)
    (fun k K W => ∃ cd t φ', RK (kx w0 ok nt) K t φ' a W ∧ W.heap[w.heap.size + 1]? = some (.loop (rec .done (some cd))) ∧ W.heap[w.heap.size]? = some (.deferred (some [])) ∧ K (w.heap.size + 1) ∧ K w.heap.size ∧ ((cd = .ret ∧ Q .ret t) ∨ (∃ id, cd = .exit id ∧ Q (.exit id) t) ∨ (∃ l', cd = .goto l' ∧ Q (.goto l') t)))
    hbs hcaps hblk1 hng1 hgl1 (by omega) (fun hfin K W ⟨x, _, h, _⟩ => never hfin x h) hfz
    (fun k K W W' ⟨x, φ', h1, h2, h3, h4, h5, h6, h7⟩ hs hb => ⟨x, φ', h1, h2.stable hs hb, h3, (hb _ h6).trans h4, (hb _ h7).trans h5, h6, h7⟩)
    (fun k K W W' ⟨cd, t, φ', h1, h2, h3, h4, h5, h6⟩ hs hb => ⟨cd, t, φ', h1.stable hs hb, (hb _ h4).trans h2, (hb _ h5).trans h3, h4, h5, h6⟩)
    ?_ (fun b => b < W1.heap.size ∧ b ≠ (φ n0).1) ⟨x0, φ, hI, hK1, ?_, hL1, hD1, ⟨by omega, by omega⟩, ⟨by omega, by omega⟩⟩ (fun b => Iff.rfl)
  · -- behind the iterator
    have harg : (vs.toArray ++ #[Value.func (.yield (w.heap.size + 1)) #[] #[]] ++ us.toArray) = (vs ++ .func (.yield (w.heap.size + 1)) #[] #[] :: us).toArray := by simp
    rw [harg, hvs0, hus0]
    refine callsIn_fz (key.mono ?_)
    rintro e w3 ⟨⟨v, rfl⟩, hs3, K', hK', hJ | ⟨k, hJ⟩⟩
    · obtain ⟨x, φ', hIx, hrk, _, hl, hD, _, _⟩ := hJ
      have hend : (Instr.endLoop (w.heap.size + 1)).run P w3 = .ok none (w3.putObj (w.heap.size + 1) (.loop { rec .ready none with state := .exhausted })) := by
        have hr := run_endLoop (P := P) hl (by rw [hrec]; simp)
        rw [hrec] at hr ⊢; exact hr
      refine ⟨none, _, hend, ?_⟩
      have h1 := hrk.toR.addMark hD hw0 hmk
      refine ⟨st xs.length x, φ', ?_, RF.one.2 (h1.putLoop _ hl (by omega))⟩
      cases hfin : fin with
      | false => exact absurd hIx (never hfin x)
      | true => exact after hfin x hIx
    · obtain ⟨cd, t, φ', hrk, hl, hD, _, _, hc⟩ := hJ
      have hend : (Instr.endLoop (w.heap.size + 1)).run P w3 = .ok (some cd) (w3.putObj (w.heap.size + 1) (.loop { rec .done (some cd) with state := .exhausted })) := by
        have hr := run_endLoop (P := P) hl (by rw [hrec]; simp)
        rw [hrec] at hr ⊢; exact hr
      refine ⟨some cd, _, hend, ?_⟩
      have h1 := (hrk.toR.addMark hD hw0 hmk).putLoop (.loop { rec .done (some cd) with state := .exhausted }) hl (by omega)
      rcases hc with ⟨rfl, hq⟩ | ⟨id, rfl, hq⟩ | ⟨l', rfl, hq⟩
      · exact wpIn_ret ⟨t, φ', hq, RF.one.2 h1⟩
      · exact wpIn_exit ⟨t, φ', hq, RF.one.2 h1⟩
      · exact wpIn_goto ⟨t, φ', hq, RF.one.2 h1⟩
  · -- one round
    rintro k K W d args okA hd ⟨x, φ', hIx, hrk, hnf, hl, hD, hKl, hKD⟩ hKlt hrep hokA
    have hcn := hcnt d (List.mem_of_getElem? hd)
    have hlen := YA.rep_len hrep
    have hy := run_yield (P := P) (args := args.toArray) hl (by rw [hrec]; simp [hlen, hcn])
    have hlW : w.heap.size + 1 < W.heap.size := hKlt _ hKl
    have hA1 : ∀ b, okA b → b < W.heap.size ∧ ¬ named (st k x) φ' b := fun b hb => by
      obtain ⟨h1, h2⟩ := hokA b hb
      refine ⟨h1, fun hn => ?_⟩
      rcases h2 with h2 | h2
      · exact hnf b hn h2
      · obtain ⟨nm, hnm, e⟩ := hn
        exact h2 (e ▸ hrk.kn nm hnm)
    have hA2 : ∀ b, okA b → b < w0.heap.size → ok b := fun b hb hlt => by
      rcases (hokA b hb).2 with h2 | h2
      · rcases h2.1 with h3 | h3
        · exact h3.2.1
        · rcases h3.1 with h4 | h4
          · have : w0.heap.size ≤ b := h4
            omega
          · exact h4.elim
      · exact absurd (hrk.k0 b hlt) h2
    obtain ⟨M, φ2, pin, gv, n, sz, cap, hφ, hM, hY, hg1, hg2, hYd, hsh, hmemB, hshow, hslv, hRs⟩ := round_start (psl := psl) hrk hKlt hrep hA1 hps hcn (some (w.heap.size + 1))
    have hnl : ∀ {o : Obj} {b : Nat}, o.isCells = false → W.heap[b]? = some o → ¬ named ⟨savF pin (st k x).fr, M⟩ φ2 b := fun ho hb ⟨nm, hnm, e⟩ => by
      have hnm : (bodyS (st k x) psl d).mem nm ≠ none := by rw [hmemB]; exact hnm
      obtain ⟨blk, hblk⟩ := Option.ne_none_iff_exists'.1 hnm
      obtain ⟨vs, ex, hh, _⟩ := hRs.mem nm blk hblk
      rw [e, hb] at hh; cases hh; cases ho
    refine ⟨fn, _, assign, body, by rw [hrec] at hy; exact hy, roundIn_of_wpIn (F := Fence.wide) (n := 0) trivial ?_⟩
    have htm : (psl.toArray.zip args.toArray).foldl (fun tmps (t, a) => tmps.setIfInBounds t a) a.tmps = (psl.zip args).foldl (fun t (p, v) => t.setIfInBounds p v) a.tmps := by simp
    rw [htm]
    refine wpIn_mono ((round k x d hIx hd W _ _ _ _).run _ _ _ (RF.one.2 hRs)) ?_
    rintro e a1 w1 ⟨t1, φ1, ⟨rfl, hbody⟩, hRa⟩
    replace hRa := RF.one.1 hRa
    have hl1 : w1.heap[w.heap.size + 1]? = some (.loop (rec .ready none)) := (hRa.below.block _ hlW (hnl rfl hl)).trans hl
    refine ⟨_, run_beginRound hl1 (by rw [hrec]), ?_⟩
    have hRb := hRa.swapL (.loop { rec .ready none with state := .busy }) hl1 hlW
    refine wpIn_mono ((hbody _).run _ _ _ (RF.one.2 hRb)) ?_
    rintro e a3 w3 ⟨t, φ3, ⟨hshn, hpost⟩, hRc⟩
    replace hRc := RF.one.1 hRc
    have hl3 : w3.heap[w.heap.size + 1]? = some (.loop { rec .ready none with state := .busy }) := (hRc.below.block _ (by simp [World.putObj]; exact hlW) (hnl rfl hl)).trans (World.putObj_heap_same hlW)
    have fin : ∀ (jump : Option Code), (Instr.endRound (w.heap.size + 1) jump).run P w3 = .ok (.bool jump.isNone) (w3.putObj (w.heap.size + 1) (.loop (rec (if jump.isNone then .ready else .done) jump))) ∧
        (SameW W (w3.putObj (w.heap.size + 1) (.loop (rec (if jump.isNone then .ready else .done) jump))) ∧ (Glob W → Glob (w3.putObj (w.heap.size + 1) (.loop (rec (if jump.isNone then .ready else .done) jump)))) ∧ ∃ K', (∀ b, K b → K' b) ∧ (∀ b, K' b → K b ∨ okA b ∨ W.heap.size ≤ b) ∧ (∀ b, K' b → b < (w3.putObj (w.heap.size + 1) (.loop (rec (if jump.isNone then .ready else .done) jump))).heap.size) ∧
          (∀ b, b < W.heap.size → ((okOf (kx w0 ok nt) φ s b ∧ b < w.heap.size) ∨ ¬ K b) → ¬ d.shows args b → (w3.putObj (w.heap.size + 1) (.loop (rec (if jump.isNone then .ready else .done) jump))).heap[b]? = W.heap[b]?) ∧
          (∀ ty cells n sz g cap, d = .sl ty cells n sz → args = [.slice (some ⟨g, 0, none⟩) n cap] → BlkAt (fun _ => False) (w3.putObj (w.heap.size + 1) (.loop (rec (if jump.isNone then .ready else .done) jump))) (g, cap * sz) ⟨ty, cells⟩) ∧
          RK (kx w0 ok nt) K' (uns t) φ3 a (w3.putObj (w.heap.size + 1) (.loop (rec (if jump.isNone then .ready else .done) jump))) ∧ (∀ b, named (uns t) φ3 b → ¬ (okOf (kx w0 ok nt) φ s b ∧ b < w.heap.size)) ∧ (w3.putObj (w.heap.size + 1) (.loop (rec (if jump.isNone then .ready else .done) jump))).heap[w.heap.size + 1]? = some (.loop (rec (if jump.isNone then .ready else .done) jump)) ∧
          (w3.putObj (w.heap.size + 1) (.loop (rec (if jump.isNone then .ready else .done) jump))).heap[w.heap.size]? = some (.deferred (some [])) ∧ K' (w.heap.size + 1) ∧ K' w.heap.size) := fun jump => by
      have hend := run_endRound (P := P) jump hl3
      have hrun : (Instr.endRound (w.heap.size + 1) jump).run P w3 = .ok (.bool jump.isNone) (w3.putObj (w.heap.size + 1) (.loop (rec (if jump.isNone then .ready else .done) jump))) := by
        rw [hrec] at hend ⊢; exact hend
      obtain ⟨q1, q2, q3, q4⟩ := round_RK (pin := pin) (n := n) (sz := sz) (cap := cap) hrk hKlt hφ hM hY hA1 hA2 hg1 hg2 (.loop { rec .ready none with state := .busy }) (.loop (rec (if jump.isNone then .ready else .done) jump)) hl (by omega) hl3 hRc (hsh t hshn) hYd
      have hs3 : SameW W w3 := (SameW.putObj W _ _).trans hRc.below.same
      have hs4 : SameW W (w3.putObj (w.heap.size + 1) (.loop (rec (if jump.isNone then .ready else .done) jump))) := hs3.trans (SameW.putObj w3 _ _)
      refine ⟨hrun, hs4, fun _ => hRc.below.glob.putLoop hl3 _, _, fun b hb => .inl hb, fun b hb => ?_, fun b hb => ?_, fun b hb1 hb2 hb3 => ?_, fun ty cells n' sz' g' cap' e1 e2 => ?_, q1, fun b hb => ?_, World.putObj_heap_same (Array.getElem?_eq_some_iff.1 hl3).1, ?_, .inl hKl, .inl hKD⟩
      · rcases hb with hb | hb | hb
        · exact .inl hb
        · exact .inr (.inl hb)
        · exact .inr (.inr hb.1)
      · rcases hb with hb | hb | hb
        · exact Nat.lt_of_lt_of_le (hKlt b hb) hs4.size
        · exact Nat.lt_of_lt_of_le (hA1 b hb).1 hs4.size
        · exact hb.2
      · refine q3 b hb1 ?_ ?_ fun hn e => hb3 (e ▸ hshow hn)
        · rintro rfl
          rcases hb2 with hb2 | hb2
          · omega
          · exact hb2 hKl
        · intro hn
          rcases hb2 with hb2 | hb2
          · exact hnf b hn hb2
          · obtain ⟨nm, hnm, e⟩ := hn
            exact hb2 (e ▸ hrk.kn nm hnm)
      · obtain ⟨z1, z2, z3⟩ := hslv ty cells n' sz' g' cap' e1 e2
        subst e1
        have hb := hRc.mem YN ⟨ty, cells⟩ hshn.1
        rw [q4 z2, z1] at hb
        obtain ⟨vs, ex, y1, y2, y3, y4⟩ := hb
        refine ⟨vs, ex, (World.putObj_heap_other ?_).trans y1, y2, y3, repL_flat cells vs z3 y4⟩
        intro e
        have e : g' = w.heap.size + 1 := e
        rw [e] at y1
        rw [hl3] at y1; cases y1
      · obtain ⟨nm, hnm, e⟩ := hb
        rcases q2 nm hnm with h5 | h5
        · exact e ▸ hnf _ h5
        · intro h6
          have := hKlt _ hKD
          omega
      · refine (q3 w.heap.size (hKlt _ hKD) (by omega) ?_ ?_).trans hD
        · rintro ⟨nm, hnm, e⟩
          obtain ⟨blk, hblk⟩ := Option.ne_none_iff_exists'.1 hnm
          obtain ⟨vs, ex, hh, _⟩ := hrk.mem nm blk hblk
          rw [e, hD] at hh; cases hh
        · intro hn e; exact hYd hn _ (e ▸ hD)
    cases e with
    | normal =>
      obtain ⟨h1, h2, h2g, K', p1, p2, p3, p4, p5, p6, p7, p8, p9, p10, p11⟩ := fin none
      obtain ⟨y, hIy, hle⟩ := hpost
      refine ⟨_, _, h1, h2, h2g, K', p1, p2, p3, p4, p5, .inl ⟨rfl, y, φ3, hIy, p6.weaken hle, fun b ⟨nm, hnm, e⟩ => p7 b ⟨nm, ?_, e⟩, p8, p9, p10, p11⟩⟩
      cases hb : (st (k + 1) y).mem nm with
      | none => exact absurd hb hnm
      | some blk => rw [hle.mem nm blk hb]; simp
    | ret =>
      obtain ⟨h1, h2, h2g, K', p1, p2, p3, p4, p5, p6, p7, p8, p9, p10, p11⟩ := fin (some .ret)
      exact ⟨_, _, h1, h2, h2g, K', p1, p2, p3, p4, p5, .inr ⟨rfl, .ret, uns t, φ3, p6, p8, p9, p10, p11, .inl ⟨rfl, hpost⟩⟩⟩
    | exit id =>
      obtain ⟨h1, h2, h2g, K', p1, p2, p3, p4, p5, p6, p7, p8, p9, p10, p11⟩ := fin (some (.exit id))
      exact ⟨_, _, h1, h2, h2g, K', p1, p2, p3, p4, p5, .inr ⟨rfl, .exit id, uns t, φ3, p6, p8, p9, p10, p11, .inr (.inl ⟨id, rfl, hpost⟩)⟩⟩
    | goto l' =>
      obtain ⟨h1, h2, h2g, K', p1, p2, p3, p4, p5, p6, p7, p8, p9, p10, p11⟩ := fin (some (.goto l'))
      exact ⟨_, _, h1, h2, h2g, K', p1, p2, p3, p4, p5, .inr ⟨rfl, .goto l', uns t, φ3, p6, p8, p9, p10, p11, .inr (.inr ⟨l', rfl, hpost⟩)⟩⟩
    | panic ch => exact hpost.elim
    | outgrown => exact hpost.elim
  · -- the names at the entry
    rintro b ⟨nm, hnm, e⟩ ⟨hb, hlt⟩
    have hn2 : s.mem nm ≠ none := by
      cases hb2 : (st 0 x0).mem nm with
      | none => exact absurd hb2 hnm
      | some blk => rw [h0.mem nm blk hb2]; simp
    rcases hb with hb | hb
    · obtain ⟨blk, hblk⟩ := Option.ne_none_iff_exists'.1 hn2
      rcases hR.own nm blk hblk with h5 | h5
      · have h6 : w0.heap.size ≤ (φ nm).1 := h5
        have h7 : b < w0.heap.size := hb.1
        omega
      · exact h5
    · exact hb.2 nm hn2 e⟩

end Go.Proofs.YtfcfmpdpjmbcnaaGreatDoor
