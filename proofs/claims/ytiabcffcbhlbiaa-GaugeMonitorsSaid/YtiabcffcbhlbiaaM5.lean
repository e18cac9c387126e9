/- Ranges over functions: the caller's rule. Nothing of the program. -/
import Derived.Test.YtiabcffcbhlbiaaM4
set_option linter.unusedVariables false
set_option linter.unusedSimpArgs false
namespace Go.Proofs.Ytiabcffcbhlbiaa
open Go.RowKit

def YA.cnt : YA → Nat
  | .gv ds => ds.length
  | .sl _ _ _ _ => 1
/-- How a round may end. -/
def RPost (Q : Exit → AS → Prop) (next : AS → Prop) (d : YA) (e : Exit) (t : AS) : Prop := shown t d ∧ match e with
  | .normal => next (uns t)
  | .ret => Q .ret (uns t)
  | .exit id => Q (.exit id) (uns t)
  | .goto l => Q (.goto l) (uns t)
  | _ => False

theorem putL_mem : ∀ (ps : List Nat) (xs : List AV) (s : AS), (putL s ps xs).mem = s.mem
  | [], xs, s => by cases xs <;> rfl
  | _ :: _, [], _ => rfl
  | p :: ps, x :: xs, s => by
    have := putL_mem ps xs ⟨upd s.fr p x, s.mem⟩
    exact this

theorem R.putLoop {w0 w : World} {ok : Nat → Prop} {nt : Nat} {t : AS} {φ : Nat → Nat × Nat} {a : Act} (h : R (kx w0 ok nt) t φ a w) {l : Nat} {r : Loop} (o' : Obj) (hl : w.heap[l]? = some (.loop r)) (hl0 : w0.heap.size ≤ l) : R (kx w0 ok nt) t φ a (w.putObj l o') := by
  have hk := keeps_loop o' hl (okOf (kx w0 ok nt) φ t)
  refine ⟨⟨h.below.os, h.below.tape, h.below.output, by simp [World.putObj]; exact h.below.size, fun k hk1 he => (World.putObj_heap_other (by have : k < w0.heap.size := hk1; omega)).trans (h.below.block k hk1 he)⟩, h.defers.keeps fun D _ hD => World.putObj_heap_other (by rintro rfl; rw [hl] at hD; cases hD), h.size, h.ntv, fun i hi => AV.rep_keeps hk (h.fr i hi), h.own, fun nm blk hn => ?_, h.inj, fun k _ => ⟨fun _ => False, trivial, fun _ _ h => h, fun _ h => h.elim, fun _ _ h => h⟩⟩
  have hb := h.mem nm blk hn
  exact hb.keeps hk (World.putObj_heap_other (fun e => blk_not_loop hb (e ▸ hl)))
theorem R.addMark {w0 w : World} {ok : Nat → Prop} {nt : Nat} {t : AS} {φ : Nat → Nat × Nat} {a : Act} (h : R (kx w0 ok nt) t φ a w) {D : Nat} (hD : w.heap[D]? = some (.deferred (some []))) (hD0 : w0.heap.size ≤ D) (hn : ({ target := .collected D, args := #[] } : Deferred) ∉ a.defers) :
    R (kx w0 ok nt) t φ { a with defers := [{ target := .collected D, args := #[] }] ++ a.defers } w := by
  obtain ⟨Ds, h1, h2, h3⟩ := h.defers
  refine ⟨h.below, ⟨D :: Ds, by rw [h1]; rfl, List.nodup_cons.2 ⟨fun hm => hn (by rw [h1]; exact List.mem_map.2 ⟨D, hm, rfl⟩), h2⟩, fun E hE => ?_⟩, h.size, h.ntv, h.fr, h.own, h.mem, h.inj, fun k _ => ⟨fun _ => False, trivial, fun _ _ h => h, fun _ h => h.elim, fun _ _ h => h⟩⟩
  rcases List.mem_cons.1 hE with rfl | hE
  · exact ⟨⟨rfl, hD0⟩, hD⟩
  · exact h3 E hE

theorem nomatch_gv {ds : List DV} {ty : TypeId} {cells : List DV} {n sz : Nat} {p : Prop} (e : YA.gv ds = .sl ty cells n sz) : p := by cases e
/-- The start of a round. -/
theorem round_start {w0 W : World} {ok : Nat → Prop} {nt : Nat} {K okA : Nat → Prop} {S : AS} {φ : Nat → Nat × Nat} {a : Act} {psl : List Nat} {d : YA} {args : List Value} (h : RK (kx w0 ok nt) K S φ a W) (hK : ∀ b, K b → b < W.heap.size) (hd : d.rep K okA W args)
    (hA : ∀ b, okA b → b < W.heap.size ∧ ¬ named S φ b) (hps : ∀ p ∈ psl, p < nt) (hcnt : d.cnt = psl.length) (rd : Option Nat) :
    ∃ (M : Nat → Option Blk) (φ2 : Nat → Nat × Nat) (pin : AV) (gv : Nat → Value) (n sz cap : Nat), (∀ m, m ≠ YN → φ2 m = φ m) ∧ (∀ m, m ≠ YN → M m = S.mem m) ∧ (M YN ≠ none → ¬ K (φ2 YN).1) ∧ (∀ j, j < VG → gv j = a.tmps.getD j undef) ∧ (M YN ≠ none → gv VG = .slice (some ⟨(φ2 YN).1, 0, none⟩) n cap ∧ (φ2 YN).2 = cap * sz) ∧
      (M YN ≠ none → ∀ x, W.heap[(φ2 YN).1]? ≠ some (.deferred x)) ∧ (∀ t, shown t d → M YN ≠ none → t.mem YN ≠ none ∧ t.fr (GH + VG) = .lsl YN 0 n sz) ∧ (bodyS S psl d).mem = M ∧ (M YN ≠ none → d.shows args (φ2 YN).1) ∧
      (∀ ty cells n sz g cap, d = .sl ty cells n sz → args = [.slice (some ⟨g, 0, none⟩) n cap] → φ2 YN = (g, cap * sz) ∧ M YN ≠ none ∧ DV.flatL cells = true) ∧
      R (rctx W (fun b => kok (kx w0 ok nt) φ S K b ∨ okA b) nt rd (named ⟨savF pin S.fr, M⟩ φ2) gv) (bodyS S psl d) φ2 { tmps := (psl.zip args).foldl (fun t (p, v) => t.setIfInBounds p v) a.tmps, defers := [] } W := by
  cases d with
  | gv ds =>
    have hd : DV.repL okA W ds args := hd
    have hlen := repL_length hd
    have hc : ds.length = psl.length := hcnt
    have hM0 : upd S.mem YN none YN = none := upd_same _ _ _
    have hbase := savF_R (rd := rd) (gv := fun j => a.tmps.getD j undef) (pin := .d .any) (φ2 := φ) (M := upd S.mem YN none) (okA := okA) h hK (fun _ _ => rfl) (fun m hm => upd_ne _ _ hm) (fun hn => absurd hM0 hn) (fun blk hn => by rw [hM0] at hn; cases hn) (fun hn => absurd hM0 hn) hA (fun _ _ => rfl) (fun _ => any_rep)
    refine ⟨upd S.mem YN none, φ, .d .any, fun j => a.tmps.getD j undef, 0, 0, 0, fun _ _ => rfl, fun m hm => upd_ne _ _ hm, fun hn => absurd hM0 hn, fun _ _ => rfl, fun hn => absurd hM0 hn, fun hn => absurd hM0 hn, fun _ _ hn => absurd hM0 hn, putL_mem _ _ _, fun hn => absurd hM0 hn, fun _ _ _ _ _ _ e _ => nomatch_gv e, ?_⟩
    refine putL_R psl (ds.map .d) args _ _ hbase hps (by simp [hc]) (by omega) fun j x v hx hv => ?_
    rw [List.getElem?_map] at hx
    obtain ⟨x', hx', rfl⟩ := Option.map_eq_some_iff.1 hx
    obtain ⟨u, hu, hru⟩ := repL_get hd hx'
    rw [hv] at hu; cases hu
    show DV.rep _ W x' v
    refine DV.rep_keeps (Keeps.wide fun b hb _ => ?_) x' v hru
    refine .inl ⟨(hA b hb).1, .inr hb, ?_⟩
    rintro ⟨nm, hnm, e⟩
    have hnm : upd S.mem YN none nm ≠ none := hnm
    by_cases en : nm = YN
    · subst en; exact hnm hM0
    · rw [upd_ne _ _ en] at hnm
      exact (hA b hb).2 ⟨nm, hnm, e⟩
  | sl ty cells n sz =>
    obtain ⟨g, cap, rfl, h1, h2, h3, h4, h5, h6⟩ := hd
    have hc : 1 = psl.length := hcnt
    have hM0 : upd S.mem YN (some ⟨ty, cells⟩) YN = some ⟨ty, cells⟩ := upd_same _ _ _
    have hφ0 : upd φ YN (g, cap * sz) YN = (g, cap * sz) := upd_same _ _ _
    have hpinr : ∀ ok', (AV.lsl YN 0 n sz).rep ok' (upd φ YN (g, cap * sz)) W (.slice (some ⟨g, 0, none⟩) n cap) := fun ok' => ⟨cap, by rw [hφ0], h1, h2, by rw [hφ0]; simp⟩
    have hgv1 : ∀ j, j < VG → (fun j => if j = VG then Value.slice (some ⟨g, 0, none⟩) n cap else a.tmps.getD j undef) j = a.tmps.getD j undef := fun j hj => if_neg (Nat.ne_of_lt hj)
    have hgv2 : (fun j => if j = VG then Value.slice (some ⟨g, 0, none⟩) n cap else a.tmps.getD j undef) VG = .slice (some ⟨g, 0, none⟩) n cap := if_pos rfl
    have hbase := savF_R (rd := rd) (gv := fun j => if j = VG then .slice (some ⟨g, 0, none⟩) n cap else a.tmps.getD j undef) (pin := .lsl YN 0 n sz) (φ2 := upd φ YN (g, cap * sz)) (M := upd S.mem YN (some ⟨ty, cells⟩)) (okA := okA) h hK (fun m hm => upd_ne _ _ hm) (fun m hm => upd_ne _ _ hm) (fun _ => by rw [hφ0]; exact h3)
      (fun blk hn => by
        rw [hM0] at hn; cases hn
        rw [hφ0]
        exact h6.keeps (Keeps.wide fun b hb _ => .inr hb) rfl) (fun _ => by rw [hφ0]; exact h4) hA hgv1 (fun ok' => by rw [if_pos rfl]; exact hpinr ok')
    refine ⟨upd S.mem YN (some ⟨ty, cells⟩), upd φ YN (g, cap * sz), .lsl YN 0 n sz, fun j => if j = VG then .slice (some ⟨g, 0, none⟩) n cap else a.tmps.getD j undef, n, sz, cap, fun m hm => upd_ne _ _ hm, fun m hm => upd_ne _ _ hm, fun _ => by rw [hφ0]; exact h3, hgv1, fun _ => ⟨by rw [hφ0]; exact hgv2, by rw [hφ0]⟩, fun _ x hx => ?_, fun t ht _ => ⟨by rw [ht.1]; simp, ht.2⟩, putL_mem _ _ _, fun _ => ⟨cap, by rw [hφ0]⟩, fun ty' cells' n' sz' g' cap' e1 e2 => ?_, ?_⟩
    · rw [hφ0] at hx
      obtain ⟨vs, ex, hh, _⟩ := h6
      rw [hx] at hh; cases hh
    · cases e1
      injection e2 with e2 _
      obtain ⟨e3, e4⟩ := sl_inj e2
      subst e3; subst e4
      exact ⟨hφ0, by rw [hM0]; simp, h5⟩
    · refine putL_R psl [.lsl YN 0 n sz] [.slice (some ⟨g, 0, none⟩) n cap] _ _ hbase hps (by simpa using hc) (by simpa using hc) fun j x v hx hv => ?_
      cases j with
      | zero => cases hx; cases hv; exact hpinr _
      | succ j => simp at hx

theorem YA.rep_len {K okA : Nat → Prop} {W : World} {d : YA} {args : List Value} (h : d.rep K okA W args) : args.length = d.cnt := by
  cases d with
  | gv ds => exact repL_length h
  | sl ty cells n sz => obtain ⟨g, cap, rfl, _⟩ := h; rfl

theorem shows_sl {d : YA} {args : List Value} {b : Nat} (h : d.shows args b) : ∃ ty cells n sz cap, d = .sl ty cells n sz ∧ args = [.slice (some ⟨b, 0, none⟩) n cap] := by
  cases d with
  | gv ds => exact h.elim
  | sl ty cells n sz => obtain ⟨cap, h⟩ := h; exact ⟨ty, cells, n, sz, cap, rfl, h⟩

/-- A function value with what it is bound to and has captured. -/
inductive FnB (s : AS) (y : Operand) (f : FuncId) : List DV → List DV → Prop
  | val (h : s.ev y = .d (.val (.func (.func f) #[] #[]))) : FnB s y f [] []
  | fn {bs caps} (h : s.ev y = .d (.fn (.func f) bs caps)) : FnB s y f bs caps

/-- A range over a function: st k x is the state behind k rounds. -/
theorem awp_rangeFunc {P : Program} {w0 : World} {ok : Nat → Prop} {nt : Nat} {Q : Exit → AS → Prop} {s : AS} {g : Operand} {psl : List Nat} {assign body : Code} {gf : FuncId} {bs caps : List DV} {xs : List YA} {fin : Bool} {α : Type} (st : Nat → α → AS) (I : Nat → α → Prop) (x0 : α)
    (he : Enters P gf) (hg : FnB s g gf bs caps) (hAY : AY P gf bs caps xs fin) (hI : I 0 x0) (h0 : s.le (st 0 x0)) (hps : ∀ p ∈ psl, p < nt) (hcnt : ∀ d ∈ xs, d.cnt = psl.length)
    (round : ∀ k x d, I k x → xs[k]? = some d → ∀ W ok' rd ex gv, AWp P (one (rctx W ok' nt rd ex gv)) assign (fun e t => e = .normal ∧ ∀ W', AWp P (one (rctx W' ok' nt rd ex gv)) body (RPost Q (fun u => ∃ y, I (k + 1) y ∧ u.le (st (k + 1) y)) d) t) (bodyS (st k x) psl d))
    (never : fin = false → ∀ x, ¬ I xs.length x) (after : fin = true → ∀ x, I xs.length x → Q .normal (st xs.length x)) : AWp P (ctx0 w0 ok nt) (.rangeFunc g psl.toArray assign body) Q s := ⟨fun φ a w hR => by
  replace hR := RF.one.1 hR
  refine wpIn_rangeFunc (F := fz none) (n := 0) fun fn _ => ?_
  obtain ⟨vs, us, hgv, hvs, hus⟩ : ∃ vs us : List Value, a.eval g = .func (.func gf) vs.toArray us.toArray ∧ DV.repL (okOf (kx w0 ok nt) φ s) w bs vs ∧ DV.repL (okOf (kx w0 ok nt) φ s) w caps us := by
    have h1 := hR.ev g
    cases hg with
    | val h => rw [h] at h1; exact ⟨[], [], (rep_val (ok := okOf (kx w0 ok nt) φ s) (w := w)).1 h1, repL_nil.2 rfl, repL_nil.2 rfl⟩
    | fn h =>
      rw [h] at h1
      have h1 : DV.rep _ w _ _ := h1
      rw [DV.rep] at h1
      obtain ⟨vs, us, e, h2, h3⟩ := h1
      exact ⟨vs, us, e, h2, h3⟩
  obtain ⟨rec, hrec⟩ : ∃ rec : LoopState → Option Code → Loop, rec = fun st pe => { state := st, pending := pe, fn, tmps := a.tmps, params := psl.toArray, assign, body, defers := w.heap.size } := ⟨_, rfl⟩
  obtain ⟨W1, hW1⟩ : ∃ W1, (w.alloc (.deferred (some []))).alloc (.loop (rec .ready none)) = W1 := ⟨_, rfl⟩
  have hsz1 : W1.heap.size = w.heap.size + 2 := by rw [← hW1]; simp
  have hL1 : W1.heap[w.heap.size + 1]? = some (.loop (rec .ready none)) := by
    rw [← hW1]; have := World.alloc_heap_new (w.alloc (.deferred (some []))) (.loop (rec .ready none)); rwa [World.size_alloc] at this
  have hD1 : W1.heap[w.heap.size]? = some (.deferred (some [])) := by
    rw [← hW1]; exact (Below.heap_alloc _ _ _ (by simp)).trans (World.alloc_heap_new w _)
  have hb1 : Below w.heap.size w W1 := by
    rw [← hW1]; exact ((Below.refl _ w).alloc (Nat.le_refl _) _).alloc (by simp) _
  have hR1 := (hR.below' hb1).weaken h0
  have hK1 := RK.ofR hR1
  have hw0 : w0.heap.size ≤ w.heap.size := hR.below.size
  have hmk : ({ target := .collected w.heap.size, args := #[] } : Deferred) ∉ a.defers := fun hm => Nat.lt_irrefl _ ((RK.ofR hR).kd _ hm)
  refine ⟨w.heap.size + 1, [{ target := .collected w.heap.size, args := #[] }], W1, { target := .fn (.func gf) us.toArray, args := vs.toArray ++ #[.func (.yield (w.heap.size + 1)) #[] #[]] }, W1, gf,
    vs.toArray ++ #[.func (.yield (w.heap.size + 1)) #[] #[]] ++ us.toArray, W1, ?_, ?_, fun _ _ => trivial, ?_, fun h => by simp [fz, Fence.wide] at h, ?_⟩
  · rw [← hW1, hrec]; exact run_enterLoop_outer _ _ _ _ _
  · simp only [resolve, hgv]
    simp [go_sem]
  · have he' : (callFunc gf (vs.toArray ++ #[.func (.yield (w.heap.size + 1)) #[] #[]] ++ us.toArray)).run P W1 = .ok (.enter gf (vs.toArray ++ #[.func (.yield (w.heap.size + 1)) #[] #[]] ++ us.toArray)) W1 := he _ W1
    simp [invoke, go_sem] at he' ⊢
    exact he'
  -- the iterator's contract
  have hfz : ∀ b, (okOf (kx w0 ok nt) φ s b ∧ b < w.heap.size) → b < W1.heap.size := fun b hb => by omega
  have hbs : DV.repL (fun b => okOf (kx w0 ok nt) φ s b ∧ b < w.heap.size) W1 bs vs := DV.repL_keeps ⟨fun b hb hl => ⟨hb, hl⟩, hb1.size, fun b o u _ hl hc => (hb1.cell (p := ⟨b, o, none⟩) hl).trans hc⟩ _ _ hvs
  have hcaps : DV.repL (fun b => okOf (kx w0 ok nt) φ s b ∧ b < w.heap.size) W1 caps us := DV.repL_keeps ⟨fun b hb hl => ⟨hb, hl⟩, hb1.size, fun b o u _ hl hc => (hb1.cell (p := ⟨b, o, none⟩) hl).trans hc⟩ _ _ hus
  have key := hAY (fun b => okOf (kx w0 ok nt) φ s b ∧ b < w.heap.size) W1 vs us (w.heap.size + 1)
    (fun k K W => ∃ x φ', I k x ∧ RK (kx w0 ok nt) K (st k x) φ' a W ∧ (∀ b, named (st k x) φ' b → ¬ (okOf (kx w0 ok nt) φ s b ∧ b < w.heap.size)) ∧ W.heap[w.heap.size + 1]? = some (.loop (rec .ready none)) ∧ W.heap[w.heap.size]? = some (.deferred (some [])) ∧ K (w.heap.size + 1) ∧ K w.heap.size)
    (fun k K W => ∃ cd t φ', RK (kx w0 ok nt) K t φ' a W ∧ W.heap[w.heap.size + 1]? = some (.loop (rec .done (some cd))) ∧ W.heap[w.heap.size]? = some (.deferred (some [])) ∧ K (w.heap.size + 1) ∧ K w.heap.size ∧ ((cd = .ret ∧ Q .ret t) ∨ (∃ id, cd = .exit id ∧ Q (.exit id) t) ∨ (∃ l', cd = .goto l' ∧ Q (.goto l') t)))
    hbs hcaps (fun hfin K W ⟨x, _, h, _⟩ => never hfin x h) hfz
    (fun k K W W' ⟨x, φ', h1, h2, h3, h4, h5, h6, h7⟩ hs hb => ⟨x, φ', h1, h2.stable hs hb, h3, (hb _ h6).trans h4, (hb _ h7).trans h5, h6, h7⟩)
    (fun k K W W' ⟨cd, t, φ', h1, h2, h3, h4, h5, h6⟩ hs hb => ⟨cd, t, φ', h1.stable hs hb, (hb _ h4).trans h2, (hb _ h5).trans h3, h4, h5, h6⟩)
    ?_ (· < W1.heap.size) ⟨x0, φ, hI, hK1, ?_, hL1, hD1, by omega, by omega⟩ (fun b => Iff.rfl)
  · -- behind the iterator
    have harg : (vs.toArray ++ #[Value.func (.yield (w.heap.size + 1)) #[] #[]] ++ us.toArray) = (vs ++ .func (.yield (w.heap.size + 1)) #[] #[] :: us).toArray := by simp
    rw [harg]
    refine callsIn_fz (key.mono ?_)
    rintro e w3 ⟨⟨v, rfl⟩, hs3, K', hK', hJ | ⟨k, hJ⟩⟩
    · obtain ⟨x, φ', hIx, hrk, _, hl, hD, _, _⟩ := hJ
      have hend : (Instr.endLoop (w.heap.size + 1)).run P w3 = .ok none (w3.putObj (w.heap.size + 1) (.loop { rec .ready none with state := .exhausted })) := by
        have hr := run_endLoop (P := P) hl (by rw [hrec]; simp)
        rw [hrec] at hr ⊢; exact hr
      refine ⟨none, _, hend, ?_⟩
      have h1 := hrk.toR.addMark hD hw0 hmk
      refine ⟨st xs.length x, φ', ?_, RF.one.2 (h1.putLoop _ hl (by omega))⟩
      cases hfin : fin with
      | false => exact absurd hIx (never hfin x)
      | true => exact after hfin x hIx
    · obtain ⟨cd, t, φ', hrk, hl, hD, _, _, hc⟩ := hJ
      have hend : (Instr.endLoop (w.heap.size + 1)).run P w3 = .ok (some cd) (w3.putObj (w.heap.size + 1) (.loop { rec .done (some cd) with state := .exhausted })) := by
        have hr := run_endLoop (P := P) hl (by rw [hrec]; simp)
        rw [hrec] at hr ⊢; exact hr
      refine ⟨some cd, _, hend, ?_⟩
      have h1 := (hrk.toR.addMark hD hw0 hmk).putLoop (.loop { rec .done (some cd) with state := .exhausted }) hl (by omega)
      rcases hc with ⟨rfl, hq⟩ | ⟨id, rfl, hq⟩ | ⟨l', rfl, hq⟩
      · exact wpIn_ret ⟨t, φ', hq, RF.one.2 h1⟩
      · exact wpIn_exit ⟨t, φ', hq, RF.one.2 h1⟩
      · exact wpIn_goto ⟨t, φ', hq, RF.one.2 h1⟩
  · -- one round
    rintro k K W d args okA hd ⟨x, φ', hIx, hrk, hnf, hl, hD, hKl, hKD⟩ hKlt hrep hokA
    have hcn := hcnt d (List.mem_of_getElem? hd)
    have hlen := YA.rep_len hrep
    have hy := run_yield (P := P) (args := args.toArray) hl (by rw [hrec]; simp [hlen, hcn])
    have hlW : w.heap.size + 1 < W.heap.size := hKlt _ hKl
    have hA1 : ∀ b, okA b → b < W.heap.size ∧ ¬ named (st k x) φ' b := fun b hb => by
      obtain ⟨h1, h2⟩ := hokA b hb
      refine ⟨h1, fun hn => ?_⟩
      rcases h2 with h2 | h2
      · exact hnf b hn h2
      · obtain ⟨nm, hnm, e⟩ := hn
        exact h2 (e ▸ hrk.kn nm hnm)
    have hA2 : ∀ b, okA b → b < w0.heap.size → ok b := fun b hb hlt => by
      rcases (hokA b hb).2 with h2 | h2
      · rcases h2.1 with h3 | h3
        · exact h3.2.1
        · rcases h3.1 with h4 | h4
          · have : w0.heap.size ≤ b := h4
            omega
          · exact h4.elim
      · exact absurd (hrk.k0 b hlt) h2
    obtain ⟨M, φ2, pin, gv, n, sz, cap, hφ, hM, hY, hg1, hg2, hYd, hsh, hmemB, hshow, hslv, hRs⟩ := round_start (psl := psl) hrk hKlt hrep hA1 hps hcn (some (w.heap.size + 1))
    have hnl : ∀ {o : Obj} {b : Nat}, o.isCells = false → W.heap[b]? = some o → ¬ named ⟨savF pin (st k x).fr, M⟩ φ2 b := fun ho hb ⟨nm, hnm, e⟩ => by
      have hnm : (bodyS (st k x) psl d).mem nm ≠ none := by rw [hmemB]; exact hnm
      obtain ⟨blk, hblk⟩ := Option.ne_none_iff_exists'.1 hnm
      obtain ⟨vs, ex, hh, _⟩ := hRs.mem nm blk hblk
      rw [e, hb] at hh; cases hh; cases ho
    refine ⟨fn, _, assign, body, by rw [hrec] at hy; exact hy, roundIn_of_wpIn (F := Fence.wide) (n := 0) trivial ?_⟩
    have htm : (psl.toArray.zip args.toArray).foldl (fun tmps (t, a) => tmps.setIfInBounds t a) a.tmps = (psl.zip args).foldl (fun t (p, v) => t.setIfInBounds p v) a.tmps := by simp
    rw [htm]
    refine wpIn_mono ((round k x d hIx hd W _ _ _ _).run _ _ _ (RF.one.2 hRs)) ?_
    rintro e a1 w1 ⟨t1, φ1, ⟨rfl, hbody⟩, hRa⟩
    replace hRa := RF.one.1 hRa
    have hl1 : w1.heap[w.heap.size + 1]? = some (.loop (rec .ready none)) := (hRa.below.block _ hlW (hnl rfl hl)).trans hl
    refine ⟨_, run_beginRound hl1 (by rw [hrec]), ?_⟩
    have hRb := hRa.swapL (.loop { rec .ready none with state := .busy }) hl1 hlW
    refine wpIn_mono ((hbody _).run _ _ _ (RF.one.2 hRb)) ?_
    rintro e a3 w3 ⟨t, φ3, ⟨hshn, hpost⟩, hRc⟩
    replace hRc := RF.one.1 hRc
    have hl3 : w3.heap[w.heap.size + 1]? = some (.loop { rec .ready none with state := .busy }) := (hRc.below.block _ (by simp [World.putObj]; exact hlW) (hnl rfl hl)).trans (World.putObj_heap_same hlW)
    have fin : ∀ (jump : Option Code), (Instr.endRound (w.heap.size + 1) jump).run P w3 = .ok (.bool jump.isNone) (w3.putObj (w.heap.size + 1) (.loop (rec (if jump.isNone then .ready else .done) jump))) ∧
        (SameW W (w3.putObj (w.heap.size + 1) (.loop (rec (if jump.isNone then .ready else .done) jump))) ∧ ∃ K', (∀ b, K b → K' b) ∧ (∀ b, K' b → K b ∨ okA b ∨ W.heap.size ≤ b) ∧ (∀ b, K' b → b < (w3.putObj (w.heap.size + 1) (.loop (rec (if jump.isNone then .ready else .done) jump))).heap.size) ∧
          (∀ b, b < W.heap.size → ((okOf (kx w0 ok nt) φ s b ∧ b < w.heap.size) ∨ ¬ K b) → ¬ d.shows args b → (w3.putObj (w.heap.size + 1) (.loop (rec (if jump.isNone then .ready else .done) jump))).heap[b]? = W.heap[b]?) ∧
          (∀ ty cells n sz g cap, d = .sl ty cells n sz → args = [.slice (some ⟨g, 0, none⟩) n cap] → BlkAt (fun _ => False) (w3.putObj (w.heap.size + 1) (.loop (rec (if jump.isNone then .ready else .done) jump))) (g, cap * sz) ⟨ty, cells⟩) ∧
          RK (kx w0 ok nt) K' (uns t) φ3 a (w3.putObj (w.heap.size + 1) (.loop (rec (if jump.isNone then .ready else .done) jump))) ∧ (∀ b, named (uns t) φ3 b → ¬ (okOf (kx w0 ok nt) φ s b ∧ b < w.heap.size)) ∧ (w3.putObj (w.heap.size + 1) (.loop (rec (if jump.isNone then .ready else .done) jump))).heap[w.heap.size + 1]? = some (.loop (rec (if jump.isNone then .ready else .done) jump)) ∧
          (w3.putObj (w.heap.size + 1) (.loop (rec (if jump.isNone then .ready else .done) jump))).heap[w.heap.size]? = some (.deferred (some [])) ∧ K' (w.heap.size + 1) ∧ K' w.heap.size) := fun jump => by
      have hend := run_endRound (P := P) jump hl3
      have hrun : (Instr.endRound (w.heap.size + 1) jump).run P w3 = .ok (.bool jump.isNone) (w3.putObj (w.heap.size + 1) (.loop (rec (if jump.isNone then .ready else .done) jump))) := by
        rw [hrec] at hend ⊢; exact hend
      obtain ⟨q1, q2, q3, q4⟩ := round_RK (pin := pin) (n := n) (sz := sz) (cap := cap) hrk hKlt hφ hM hY hA1 hA2 hg1 hg2 (.loop { rec .ready none with state := .busy }) (.loop (rec (if jump.isNone then .ready else .done) jump)) hl (by omega) hl3 hRc (hsh t hshn) hYd
      have hs3 : SameW W w3 := (SameW.putObj W _ _).trans hRc.below.same
      have hs4 : SameW W (w3.putObj (w.heap.size + 1) (.loop (rec (if jump.isNone then .ready else .done) jump))) := hs3.trans (SameW.putObj w3 _ _)
      refine ⟨hrun, hs4, _, fun b hb => .inl hb, fun b hb => ?_, fun b hb => ?_, fun b hb1 hb2 hb3 => ?_, fun ty cells n' sz' g' cap' e1 e2 => ?_, q1, fun b hb => ?_, World.putObj_heap_same (Array.getElem?_eq_some_iff.1 hl3).1, ?_, .inl hKl, .inl hKD⟩
      · rcases hb with hb | hb | hb
        · exact .inl hb
        · exact .inr (.inl hb)
        · exact .inr (.inr hb.1)
      · rcases hb with hb | hb | hb
        · exact Nat.lt_of_lt_of_le (hKlt b hb) hs4.size
        · exact Nat.lt_of_lt_of_le (hA1 b hb).1 hs4.size
        · exact hb.2
      · refine q3 b hb1 ?_ ?_ fun hn e => hb3 (e ▸ hshow hn)
        · rintro rfl
          rcases hb2 with hb2 | hb2
          · omega
          · exact hb2 hKl
        · intro hn
          rcases hb2 with hb2 | hb2
          · exact hnf b hn hb2
          · obtain ⟨nm, hnm, e⟩ := hn
            exact hb2 (e ▸ hrk.kn nm hnm)
      · obtain ⟨z1, z2, z3⟩ := hslv ty cells n' sz' g' cap' e1 e2
        subst e1
        have hb := hRc.mem YN ⟨ty, cells⟩ hshn.1
        rw [q4 z2, z1] at hb
        obtain ⟨vs, ex, y1, y2, y3, y4⟩ := hb
        refine ⟨vs, ex, (World.putObj_heap_other ?_).trans y1, y2, y3, repL_flat cells vs z3 y4⟩
        intro e
        have e : g' = w.heap.size + 1 := e
        rw [e] at y1
        rw [hl3] at y1; cases y1
      · obtain ⟨nm, hnm, e⟩ := hb
        rcases q2 nm hnm with h5 | h5
        · exact e ▸ hnf _ h5
        · intro h6
          have := hKlt _ hKD
          omega
      · refine (q3 w.heap.size (hKlt _ hKD) (by omega) ?_ ?_).trans hD
        · rintro ⟨nm, hnm, e⟩
          obtain ⟨blk, hblk⟩ := Option.ne_none_iff_exists'.1 hnm
          obtain ⟨vs, ex, hh, _⟩ := hrk.mem nm blk hblk
          rw [e, hD] at hh; cases hh
        · intro hn e; exact hYd hn _ (e ▸ hD)
    cases e with
    | normal =>
      obtain ⟨h1, h2, K', p1, p2, p3, p4, p5, p6, p7, p8, p9, p10, p11⟩ := fin none
      obtain ⟨y, hIy, hle⟩ := hpost
      refine ⟨_, _, h1, h2, K', p1, p2, p3, p4, p5, .inl ⟨rfl, y, φ3, hIy, p6.weaken hle, fun b ⟨nm, hnm, e⟩ => p7 b ⟨nm, ?_, e⟩, p8, p9, p10, p11⟩⟩
      cases hb : (st (k + 1) y).mem nm with
      | none => exact absurd hb hnm
      | some blk => rw [hle.mem nm blk hb]; simp
    | ret =>
      obtain ⟨h1, h2, K', p1, p2, p3, p4, p5, p6, p7, p8, p9, p10, p11⟩ := fin (some .ret)
      exact ⟨_, _, h1, h2, K', p1, p2, p3, p4, p5, .inr ⟨rfl, .ret, uns t, φ3, p6, p8, p9, p10, p11, .inl ⟨rfl, hpost⟩⟩⟩
    | exit id =>
      obtain ⟨h1, h2, K', p1, p2, p3, p4, p5, p6, p7, p8, p9, p10, p11⟩ := fin (some (.exit id))
      exact ⟨_, _, h1, h2, K', p1, p2, p3, p4, p5, .inr ⟨rfl, .exit id, uns t, φ3, p6, p8, p9, p10, p11, .inr (.inl ⟨id, rfl, hpost⟩)⟩⟩
    | goto l' =>
      obtain ⟨h1, h2, K', p1, p2, p3, p4, p5, p6, p7, p8, p9, p10, p11⟩ := fin (some (.goto l'))
      exact ⟨_, _, h1, h2, K', p1, p2, p3, p4, p5, .inr ⟨rfl, .goto l', uns t, φ3, p6, p8, p9, p10, p11, .inr (.inr ⟨l', rfl, hpost⟩)⟩⟩
    | panic ch => exact hpost.elim
    | outgrown => exact hpost.elim
  · -- the names at the entry
    rintro b ⟨nm, hnm, e⟩ ⟨hb, hlt⟩
    have hn2 : s.mem nm ≠ none := by
      cases hb2 : (st 0 x0).mem nm with
      | none => exact absurd hb2 hnm
      | some blk => rw [h0.mem nm blk hb2]; simp
    rcases hb with hb | hb
    · obtain ⟨blk, hblk⟩ := Option.ne_none_iff_exists'.1 hn2
      rcases hR.own nm blk hblk with h5 | h5
      · have h6 : w0.heap.size ≤ (φ nm).1 := h5
        have h7 : b < w0.heap.size := hb.1
        omega
      · exact h5
    · exact hb.2 nm hn2 e⟩

end Go.Proofs.Ytiabcffcbhlbiaa
