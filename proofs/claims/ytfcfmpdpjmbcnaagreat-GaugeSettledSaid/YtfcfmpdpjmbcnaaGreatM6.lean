/- Merged: XM4 XM5 XM6. -/
import Derived.Test.YtfcfmpdpjmbcnaaGreatM3
set_option linter.unusedVariables false
set_option linter.unusedSimpArgs false
/- Ranges over functions: the caller's side. Nothing of the program. -/
namespace Go.Proofs.YtfcfmpdpjmbcnaaGreat
open Go.RowKit

structure SameW (w w' : World) : Prop where
  os : w'.os = w.os
  tape : w'.tape = w.tape
  output : w'.output = w.output
  size : w.heap.size ≤ w'.heap.size
theorem SameW.refl (w : World) : SameW w w := ⟨rfl, rfl, rfl, Nat.le_refl _⟩
theorem SameW.trans {a b c : World} (h : SameW a b) (k : SameW b c) : SameW a c := ⟨k.os.trans h.os, k.tape.trans h.tape, k.output.trans h.output, Nat.le_trans h.size k.size⟩
theorem SameW.putObj (w : World) (l : Nat) (o : Obj) : SameW w (w.putObj l o) := ⟨rfl, rfl, rfl, by simp [World.putObj]⟩
theorem Glob.putLoop {w : World} (h : Glob w) {l : Nat} {r : Loop} (hl : w.heap[l]? = some (.loop r)) (o : Obj) : Glob (w.putObj l o) := h.keeps fun b hb => World.putObj_heap_other fun e => by
  obtain ⟨cs, t, f, hc⟩ := h.cells hb
  rw [e, hl] at hc; cases hc
theorem BelowX.same {ex : Nat → Prop} {w0 w : World} (h : BelowX ex w0 w) : SameW w0 w := ⟨h.os, h.tape, h.output, h.size⟩

/-- What is yielded: values that the body may keep; or a slice of the iterator's own, that the body is shown. -/
inductive YA where
  | gv (ds : List DV)
  | sl (ty : TypeId) (cells : List DV) (n sz : Nat)
/-- The name of the slice that is shown. -/
abbrev YN : Nat := 900000

def YA.rep (K okA : Nat → Prop) (W : World) : YA → List Value → Prop
  | .gv ds, vs => DV.repL okA W ds vs
  | .sl ty cells n sz, vs => ∃ g cap, vs = [.slice (some ⟨g, 0, none⟩) n cap] ∧ n ≤ cap ∧ cap ≤ maxLen ∧ ¬ K g ∧ ¬ okA g ∧ DV.flatL cells = true ∧ BlkAt okA W (g, cap * sz) ⟨ty, cells⟩
/-- The block that is shown. -/
def YA.shows (d : YA) (vs : List Value) (b : Nat) : Prop := match d with
  | .gv _ => False
  | .sl _ _ n _ => ∃ cap, vs = [.slice (some ⟨b, 0, none⟩) n cap]

abbrev Ghost := Nat → (Nat → Prop) → World → Prop
def Stable (J : Ghost) : Prop := ∀ k K w w', J k K w → SameW w w' → (∀ b, K b → w'.heap[b]? = w.heap[b]?) → J k K w'

/-- The function gf, with what it is bound to and what it has captured, yields the values xs, one after the other, till it is told to stop; when fin is false, it goes on behind them. J: what its caller knows behind so many rounds, and of which blocks; Jx: the same when it has told it to stop. -/
def AY (P : Program) (gf : FuncId) (bs caps : List DV) (xs : List YA) (fin : Bool) : Prop :=
  ∀ (fz0 : Nat → Prop) (w : World) (vs us : List Value) (l : Nat) (J Jx : Ghost), DV.repL fz0 w bs vs → DV.repL fz0 w caps us → (fin = false → ∀ K W, ¬ J xs.length K W) → (∀ b, fz0 b → b < w.heap.size) → Stable J → Stable Jx →
    (∀ k K W d args (okA : Nat → Prop), xs[k]? = some d → J k K W → (∀ b, K b → b < W.heap.size) → d.rep K okA W args → (∀ b, okA b → b < W.heap.size ∧ (fz0 b ∨ ¬ K b)) →
      YieldAt Fence.wide 0 P l args.toArray W fun e W' => SameW W W' ∧ (Glob W → Glob W') ∧ ∃ K', (∀ b, K b → K' b) ∧ (∀ b, K' b → K b ∨ okA b ∨ W.heap.size ≤ b) ∧ (∀ b, K' b → b < W'.heap.size) ∧ (∀ b, b < W.heap.size → (fz0 b ∨ ¬ K b) → ¬ d.shows args b → W'.heap[b]? = W.heap[b]?) ∧
        (∀ ty cells n sz g cap, d = .sl ty cells n sz → args = [.slice (some ⟨g, 0, none⟩) n cap] → BlkAt (fun _ => False) W' (g, cap * sz) ⟨ty, cells⟩) ∧
        ((e = .returned (.bool true) ∧ J (k + 1) K' W') ∨ (e = .returned (.bool false) ∧ Jx (k + 1) K' W'))) →
    ∀ K0, J 0 K0 w → (∀ b, K0 b ↔ b < w.heap.size) → ∀ [GlobI w],
    Calls P gf (vs ++ .func (.yield l) #[] #[] :: us).toArray w fun e w' => (∃ v, e = .returned v) ∧ SameW w w' ∧ ∃ K', (∀ b, K' b → b < w'.heap.size) ∧ (J xs.length K' w' ∨ ∃ k, Jx k K' w')

def kok (c : Ctx) (φ : Nat → Nat × Nat) (t : AS) (K : Nat → Prop) (b : Nat) : Prop := okOf c φ t b ∧ K b
/-- The relation of the frame and of the blocks, of which only the blocks K are spoken. -/
structure RK (c : Ctx) (K : Nat → Prop) (t : AS) (φ : Nat → Nat × Nat) (a : Act) (W : World) : Prop where
  below : Below c.w0.heap.size c.w0 W
  k0 : ∀ b, b < c.w0.heap.size → K b
  defers : Marks c a.defers W
  kd : ∀ D, ({ target := .collected D, args := #[] } : Deferred) ∈ a.defers → K D
  size : a.tmps.size = c.nt
  ntv : c.nt ≤ VG
  fr : ∀ i, i ≠ VG → (t.fr i).rep (kok c φ t K) φ W (slotAt c a φ i)
  own : ∀ nm blk, t.mem nm = some blk → c.w0.heap.size ≤ (φ nm).1
  kn : ∀ nm, t.mem nm ≠ none → K (φ nm).1
  mem : ∀ nm blk, t.mem nm = some blk → BlkAt (kok c φ t K) W (φ nm) blk
  inj : ∀ n m, t.mem n ≠ none → t.mem m ≠ none → n ≠ m → (φ n).1 ≠ (φ m).1
  gl : Glob c.w0

section
variable {w0 : World} {ok : Nat → Prop} {nt : Nat} {K : Nat → Prop} {t : AS} {φ : Nat → Nat × Nat} {a : Act} {W W' : World}

theorem RK.toR (h : RK (kx w0 ok nt) K t φ a W) : R (kx w0 ok nt) t φ a W := by
  have hk : Keeps (kok (kx w0 ok nt) φ t K) W (okOf (kx w0 ok nt) φ t) W := Keeps.wide fun b hb _ => hb.1
  exact ⟨⟨h.below.os, h.below.tape, h.below.output, h.below.size, fun k hk _ => h.below.block k hk, h.gl, fun _ _ h => h⟩, h.defers, h.size, h.ntv, fun i hi => AV.rep_keeps hk (h.fr i hi), fun nm blk hn => .inl (h.own nm blk hn), fun nm blk hn => (h.mem nm blk hn).keeps hk rfl, h.inj, fun k _ => ⟨fun _ => False, trivial, fun _ _ h => h, fun _ h => h.elim, fun _ _ h => h⟩⟩
theorem RK.ofR (h : R (kx w0 ok nt) t φ a W) : RK (kx w0 ok nt) (· < W.heap.size) t φ a W := by
  have hk : Keeps (okOf (kx w0 ok nt) φ t) W (kok (kx w0 ok nt) φ t (· < W.heap.size)) W := Keeps.wide fun b hb hl => ⟨hb, hl⟩
  refine ⟨h.below.all fun _ h => h, fun b hb => Nat.lt_of_lt_of_le hb h.below.size, h.defers, fun D hD => ?_, h.size, h.ntv, fun i hi => AV.rep_keeps hk (h.fr i hi), fun nm blk hn => (h.own nm blk hn).resolve_right fun h => h, fun nm hn => h.lt hn, fun nm blk hn => (h.mem nm blk hn).keeps hk rfl, h.inj, h.below.gl.1⟩
  obtain ⟨Ds, h1, h2, h3⟩ := h.defers
  rw [h1] at hD
  obtain ⟨E, hE, he⟩ := List.mem_map.1 hD
  injection he with he1 _
  injection he1 with he2
  subst he2
  exact (Array.getElem?_eq_some_iff.1 (h3 E hE).2).1
theorem RK.stable {c : Ctx} (h : RK c K t φ a W) (hs : SameW W W') (hb : ∀ b, K b → W'.heap[b]? = W.heap[b]?) : RK c K t φ a W' := by
  have hk : Keeps (kok c φ t K) W (kok c φ t K) W' := ⟨fun _ hb _ => hb, hs.size, fun b o u hok _ hc => (World.cell?_of_block (a := ⟨b, o, none⟩) (hb b hok.2)).trans hc⟩
  refine ⟨⟨hs.os.trans h.below.os, hs.tape.trans h.below.tape, hs.output.trans h.below.output, Nat.le_trans h.below.size hs.size, fun k hk => (hb k (h.k0 k hk)).trans (h.below.block k hk)⟩, h.k0, ?_, h.kd, h.size, h.ntv, fun i hi => AV.rep_keeps hk (h.fr i hi), h.own, h.kn, fun nm blk hn => (h.mem nm blk hn).keeps hk (hb _ (h.kn nm (by rw [hn]; simp))), h.inj, h.gl⟩
  obtain ⟨Ds, h1, h2, h3⟩ := h.defers
  exact ⟨Ds, h1, h2, fun D hD => ⟨(h3 D hD).1, (hb D (h.kd D (by rw [h1]; exact List.mem_map.2 ⟨D, hD, rfl⟩))).trans (h3 D hD).2⟩⟩
theorem RK.weaken {c : Ctx} {t' : AS} (h : RK c K t φ a W) (hl : t.le t') : RK c K t' φ a W := by
  have hm : ∀ n, t'.mem n ≠ none → t.mem n ≠ none := fun n hn => by
    cases hb : t'.mem n with
    | none => exact absurd hb hn
    | some b => rw [hl.mem n b hb]; simp
  have hk : Keeps (kok c φ t K) W (kok c φ t' K) W := Keeps.wide fun b hb _ => by
    refine ⟨?_, hb.2⟩
    rcases hb.1 with hb | ⟨hb, hb2⟩
    · exact .inl hb
    · exact .inr ⟨hb, fun n hn => hb2 n (hm n hn)⟩
  refine ⟨h.below, h.k0, h.defers, h.kd, h.size, h.ntv, fun i hi => ?_, fun n b hb => h.own n b (hl.mem n b hb), fun n hn => h.kn n (hm n hn), fun n b hb => (h.mem n b (hl.mem n b hb)).keeps hk rfl, fun x y hx hy => h.inj x y (hm x hx) (hm y hy), h.gl⟩
  rcases hl.fr i with e | e
  · rw [e]; simp only [AV.rep, DV.rep]
  · rw [e]; exact AV.rep_keeps hk (h.fr i hi)
end

theorem blt_irr (n : Nat) : Nat.blt n n = false := by
  cases h : Nat.blt n n
  · rfl
  · have := Nat.le_of_ble_eq_true h; omega
theorem sl_inj {a b n n' c c' : Nat} (h : Value.slice (some ⟨a, 0, none⟩) n c = .slice (some ⟨b, 0, none⟩) n' c') : a = b ∧ c = c' := by
  injection h with h1 h2 h3
  injection h1 with h1
  injection h1 with h1
  exact ⟨h1, h3⟩
theorem blt_ge {n m : Nat} (h : Nat.blt n m = false) : m ≤ n := by
  rcases Nat.lt_or_ge n m with h1 | h1
  · have := Nat.ble_eq_true_of_le h1
    rw [show Nat.blt n m = Nat.ble (n + 1) m from rfl, this] at h; cases h
  · exact h1
theorem blt_no {n m : Nat} (h : m ≤ n) : Nat.blt n m = false := by
  cases h1 : Nat.blt n m
  · rfl
  · have := Nat.le_of_ble_eq_true h1; omega
theorem any_rep {ok : Nat → Prop} {φ : Nat → Nat × Nat} {w : World} {v : Value} : (AV.d .any).rep ok φ w v := by simp only [AV.rep, DV.rep]
/-! The body's frame: the loop's own, which it bears a second time in virtual slots. -/
/-- What a body keeps of a link: a value. -/
def keepV : AV → AV
  | .d (.val v) => .d (.val v)
  | _ => .d .any
theorem keepV_rep {ok ok' : Nat → Prop} {φ φ' : Nat → Nat × Nat} {w w' : World} {x : AV} {v : Value} (h : x.rep ok φ w v) : (keepV x).rep ok' φ' w' v := by
  cases x with
  | d y =>
    cases y with
    | val u => exact (rep_val (ok := ok') (w := w')).2 ((rep_val (ok := ok) (w := w)).1 h)
    | _ => exact any_rep
  | _ => exact any_rep
theorem slotAt_hi {c : Ctx} {a : Act} {φ : Nat → Nat × Nat} {i : Nat} (h : PN ≤ i) : slotAt c a φ i = encP (φ i) := by
  unfold slotAt
  rw [blt_no (show GH ≤ i from Nat.le_trans (by decide) h), blt_no h]
  rfl
def savG (vg gh yn pn : Nat) (pin : AV) (F : Nat → AV) (i : Nat) : AV := bif Nat.blt i vg then (F i).kill yn else bif Nat.beq i vg then .d .any else bif Nat.blt (i - gh) vg then (F (i - gh)).kill yn else bif Nat.beq (i - gh) vg then pin else bif Nat.ble pn i then keepV (F i) else .d .any
theorem savG_cases (vg gh yn pn : Nat) (pin : AV) (F : Nat → AV) (i : Nat) (hi : i ≠ vg) : (i < vg ∧ savG vg gh yn pn pin F i = (F i).kill yn) ∨ (vg < i ∧ ((i - gh < vg ∧ savG vg gh yn pn pin F i = (F (i - gh)).kill yn) ∨ (i - gh = vg ∧ savG vg gh yn pn pin F i = pin) ∨ (pn ≤ i ∧ savG vg gh yn pn pin F i = keepV (F i)) ∨ savG vg gh yn pn pin F i = .d .any)) := by
  cases hb : Nat.blt i vg
  · have hge : vg ≤ i := blt_ge hb
    have hb2 : Nat.beq i vg = false := by
      cases h1 : Nat.beq i vg
      · rfl
      · exact absurd (Nat.eq_of_beq_eq_true h1) hi
    have key : savG vg gh yn pn pin F i = bif Nat.blt (i - gh) vg then (F (i - gh)).kill yn else bif Nat.beq (i - gh) vg then pin else bif Nat.ble pn i then keepV (F i) else .d .any := by
      simp only [savG, hb, hb2, cond_false]
    refine .inr ⟨Nat.lt_of_le_of_ne hge (Ne.symm hi), ?_⟩
    cases hb3 : Nat.blt (i - gh) vg
    · cases hb4 : Nat.beq (i - gh) vg
      · cases hb5 : Nat.ble pn i
        · exact .inr (.inr (.inr (by rw [key, hb3, hb4, hb5]; rfl)))
        · exact .inr (.inr (.inl ⟨Nat.le_of_ble_eq_true hb5, by rw [key, hb3, hb4, hb5]; rfl⟩))
      · exact .inr (.inl ⟨Nat.eq_of_beq_eq_true hb4, by rw [key, hb3, hb4]; rfl⟩)
    · exact .inl ⟨Nat.le_of_ble_eq_true hb3, by rw [key, hb3]; rfl⟩
  · exact .inl ⟨Nat.le_of_ble_eq_true hb, by simp only [savG, hb, cond_true]⟩
theorem savG_vg (vg gh yn pn : Nat) (pin : AV) (F : Nat → AV) : savG vg gh yn pn pin F vg = .d .any := by
  simp only [savG, blt_irr, Nat.beq_refl, cond_true, cond_false]
abbrev savF (pin : AV) (F : Nat → AV) (i : Nat) : AV := savG VG GH YN PN pin F i
theorem savF_cases (pin : AV) (F : Nat → AV) (i : Nat) (hi : i ≠ VG) : (i < VG ∧ savF pin F i = (F i).kill YN) ∨ (VG < i ∧ ((i - GH < VG ∧ savF pin F i = (F (i - GH)).kill YN) ∨ (i - GH = VG ∧ savF pin F i = pin) ∨ (PN ≤ i ∧ savF pin F i = keepV (F i)) ∨ savF pin F i = .d .any)) := savG_cases VG GH YN PN pin F i hi
theorem slotAt_ge {c : Ctx} {a : Act} {φ : Nat → Nat × Nat} {i : Nat} (h : VG < i) (h2 : i - GH ≤ VG) : slotAt c a φ i = c.gv (i - GH) := by
  unfold slotAt
  have hb : Nat.blt i PN = true := Nat.ble_eq_true_of_le (show i + 1 ≤ 3000000 by have : i - 1000000 ≤ 999999 := h2; omega)
  rw [blt_no (show GH ≤ i from h), hb]
  simp only [cond_false, cond_true]
def unsF (F : Nat → AV) (i : Nat) : AV := bif Nat.blt i VG then (F (GH + i)).kill YN else bif Nat.ble PN i then keepV (F i) else .d .any
/-- Behind the body. -/
def uns (t : AS) : AS := ⟨unsF t.fr, upd t.mem YN none⟩
def putL (s : AS) : List Nat → List AV → AS
  | p :: ps, x :: xs => putL ⟨upd s.fr p x, s.mem⟩ ps xs
  | _, _ => s
/-- The state at the body's head. -/
def bodyS (S : AS) (ps : List Nat) : YA → AS
  | .gv ds => putL ⟨savF (.d .any) S.fr, upd S.mem YN none⟩ ps (ds.map .d)
  | .sl ty cells n sz => putL ⟨savF (.lsl YN 0 n sz) S.fr, upd S.mem YN (some ⟨ty, cells⟩)⟩ ps [.lsl YN 0 n sz]
/-- What the body leaves as it was: the slice that it was shown. -/
def shown (t : AS) : YA → Prop
  | .gv _ => True
  | .sl ty cells n sz => t.mem YN = some ⟨ty, cells⟩ ∧ t.fr (GH + VG) = .lsl YN 0 n sz


theorem putL_R {c : Ctx} {φ : Nat → Nat × Nat} {W : World} : ∀ (ps : List Nat) (xs : List AV) (vs : List Value) (s : AS) (a : Act), R c s φ a W → (∀ p ∈ ps, p < c.nt) → xs.length = ps.length → vs.length = ps.length → (∀ (j : Nat) (x : AV) (v : Value), xs[j]? = some x → vs[j]? = some v → x.rep (okOf c φ s) φ W v) →
    R c (putL s ps xs) φ { tmps := (ps.zip vs).foldl (fun t (p, v) => t.setIfInBounds p v) a.tmps, defers := a.defers } W
  | [], xs, vs, s, a, h, _, _, _, _ => by
    have : putL s [] xs = s := by cases xs <;> rfl
    rw [this]; exact h
  | p :: ps, [], vs, s, a, h, _, h2, _, _ => by simp at h2
  | p :: ps, x :: xs, [], s, a, h, _, _, h3, _ => by simp at h3
  | p :: ps, x :: xs, v :: vs, s, a, h, h1, h2, h3, h4 => by
    have hp := h.put (dst := some p) (r := x) (v := v) (fun d hd => by cases hd; exact h1 p (by simp)) (h4 0 x v rfl rfl)
    exact putL_R ps xs vs _ _ hp (fun q hq => h1 q (by simp [hq])) (by simpa using h2) (by simpa using h3) fun j x v hx hv => h4 (j + 1) x v (by simpa using hx) (by simpa using hv)
/-- The context of a round. -/
@[reducible] def rctx (W : World) (ok : Nat → Prop) (nt : Nat) (rd : Option Nat) (ex : Nat → Prop) (gv : Nat → Value) : Ctx := ⟨W, ok, nt, rd, false, ex, gv, fun _ _ _ => True, fun _ _ _ _ _ _ _ _ _ _ => trivial⟩
def named (s : AS) (φ : Nat → Nat × Nat) (b : Nat) : Prop := ∃ nm, s.mem nm ≠ none ∧ (φ nm).1 = b

theorem savF_R {w0 W : World} {ok : Nat → Prop} {nt : Nat} {K okA : Nat → Prop} {S : AS} {φ φ2 : Nat → Nat × Nat} {a : Act} {M : Nat → Option Blk} {rd : Option Nat} {gv : Nat → Value} {pin : AV} (h : RK (kx w0 ok nt) K S φ a W) (hK : ∀ b, K b → b < W.heap.size)
    (hφ : ∀ m, m ≠ YN → φ2 m = φ m) (hM : ∀ m, m ≠ YN → M m = S.mem m) (hY : M YN ≠ none → ¬ K (φ2 YN).1) (hYb : ∀ blk, M YN = some blk → BlkAt (fun b => kok (kx w0 ok nt) φ S K b ∨ okA b) W (φ2 YN) blk) (hYA : M YN ≠ none → ¬ okA (φ2 YN).1)
    (hA : ∀ b, okA b → b < W.heap.size ∧ ¬ named S φ b) (hg1 : ∀ j, j < VG → gv j = a.tmps.getD j undef) (hg2 : ∀ ok, pin.rep ok φ2 W (gv VG)) :
    R (rctx W (fun b => kok (kx w0 ok nt) φ S K b ∨ okA b) nt rd (named ⟨savF pin S.fr, M⟩ φ2) gv) ⟨savF pin S.fr, M⟩ φ2 { tmps := a.tmps, defers := [] } W := by
  have hnex : ∀ b, (kok (kx w0 ok nt) φ S K b ∨ okA b) → ¬ named ⟨savF pin S.fr, M⟩ φ2 b := by
    rintro b hb ⟨nm, hnm, e⟩
    by_cases en : nm = YN
    · subst en
      rcases hb with hb | hb
      · exact hY hnm (e ▸ hb.2)
      · exact hYA hnm (e ▸ hb)
    · have hn2 : S.mem nm ≠ none := by rw [← hM nm en]; exact hnm
      rw [hφ nm en] at e
      rcases hb with ⟨hb | hb, _⟩ | hb
      · obtain ⟨blk, hblk⟩ := Option.ne_none_iff_exists'.1 hn2
        have := h.own nm blk hblk
        have hlt : b < w0.heap.size := hb.1
        have : w0.heap.size ≤ (φ nm).1 := this
        omega
      · exact hb.2 nm hn2 e
      · exact (hA b hb).2 ⟨nm, hn2, e⟩
  have hlt : ∀ b, (kok (kx w0 ok nt) φ S K b ∨ okA b) → b < W.heap.size := fun b hb => by
    rcases hb with hb | hb
    · exact hK b hb.2
    · exact (hA b hb).1
  have hsub : ∀ b, (kok (kx w0 ok nt) φ S K b ∨ okA b) → okOf (rctx W (fun b => kok (kx w0 ok nt) φ S K b ∨ okA b) nt rd (named ⟨savF pin S.fr, M⟩ φ2) gv) φ2 ⟨savF pin S.fr, M⟩ b := fun b hb => .inl ⟨hlt b hb, hb, hnex b hb⟩
  have hk1 : Keeps (kok (kx w0 ok nt) φ S K) W (okOf (rctx W (fun b => kok (kx w0 ok nt) φ S K b ∨ okA b) nt rd (named ⟨savF pin S.fr, M⟩ φ2) gv) φ2 ⟨savF pin S.fr, M⟩) W := Keeps.wide fun b hb _ => hsub b (.inl hb)
  have hk2 : Keeps (fun b => kok (kx w0 ok nt) φ S K b ∨ okA b) W (okOf (rctx W (fun b => kok (kx w0 ok nt) φ S K b ∨ okA b) nt rd (named ⟨savF pin S.fr, M⟩ φ2) gv) φ2 ⟨savF pin S.fr, M⟩) W := Keeps.wide fun b hb _ => hsub b hb
  have hkill : ∀ j, j < VG → ((S.fr j).kill YN).rep (okOf (rctx W (fun b => kok (kx w0 ok nt) φ S K b ∨ okA b) nt rd (named ⟨savF pin S.fr, M⟩ φ2) gv) φ2 ⟨savF pin S.fr, M⟩) φ2 W (a.tmps.getD j undef) := fun j hj => by
    have h1 := h.fr j (Nat.ne_of_lt hj)
    rw [slotAt_lt hj] at h1
    exact AV.rep_kill hφ (AV.rep_keeps hk1 h1)
  have hGW : Glob W := h.gl.keeps fun b hb => h.below.block b (h.gl.lt hb)
  have hGn : ∀ b, GBlk b → ¬ named ⟨savF pin S.fr, M⟩ φ2 b := fun b hb ⟨nm, hnm, e⟩ => by
    have hnm : M nm ≠ none := hnm
    have hbl := h.gl.lt hb
    by_cases en : nm = YN
    · subst en; exact hY hnm (e ▸ h.k0 b hbl)
    · have hn2 : S.mem nm ≠ none := by rw [← hM nm en]; exact hnm
      obtain ⟨blk, hblk⟩ := Option.ne_none_iff_exists'.1 hn2
      have h7 : w0.heap.size ≤ (φ nm).1 := h.own nm blk hblk
      rw [hφ nm en] at e
      have hbl : b < w0.heap.size := hbl
      omega
  refine ⟨BelowX.refl hGW hGn, ⟨[], rfl, List.nodup_nil, fun D hD => by cases hD⟩, h.size, h.ntv, fun i hi => ?_, fun nm blk hn => .inr ⟨nm, by rw [hn]; simp, rfl⟩, fun nm blk hn => ?_, fun x y hx hy hxy => ?_, fun k hk => ?_⟩
  · show (savF pin S.fr i).rep _ φ2 W _
    rcases savF_cases pin S.fr i hi with ⟨h1, h2⟩ | ⟨h1, ⟨h2, h3⟩ | ⟨h2, h3⟩ | ⟨h2, h3⟩ | h2⟩
    · rw [h2, slotAt_lt h1]; exact hkill _ h1
    · rw [h3, (slotAt_ge h1 (Nat.le_of_lt h2)).trans (hg1 _ h2)]; exact hkill _ h2
    · rw [h3, (slotAt_ge h1 (Nat.le_of_eq h2)).trans (congrArg gv h2)]; exact hg2 _
    · have h5 := h.fr i hi
      rw [slotAt_hi h2] at h5
      rw [h3, slotAt_hi h2, hφ i (fun e => by have h6 : 3000000 ≤ i := h2; have h7 : i = 900000 := e; omega)]
      exact keepV_rep h5
    · rw [h2]; exact any_rep
  · by_cases e : nm = YN
    · subst e
      exact (hYb blk hn).keeps hk2 rfl
    · have hn2 : S.mem nm = some blk := by rw [← hM nm e]; exact hn
      rw [hφ nm e]
      exact (h.mem nm blk hn2).keeps hk1 rfl
  · have hx' : M x ≠ none := hx
    have hy' : M y ≠ none := hy
    by_cases ex : x = YN
    · subst ex
      have hyn : y ≠ YN := Ne.symm hxy
      rw [hφ y hyn]
      exact fun e => hY hx' (e ▸ h.kn y (by rw [← hM y hyn]; exact hy'))
    · rw [hφ x ex]
      by_cases ey : y = YN
      · subst ey
        exact fun e => hY hy' (e ▸ h.kn x (by rw [← hM x ex]; exact hx'))
      · rw [hφ y ey]
        exact h.inj x y (by rw [← hM x ex]; exact hx') (by rw [← hM y ey]; exact hy') hxy
  · exfalso
    have e : savF pin S.fr VG = .d .any := savG_vg _ _ _ _ _ _
    have hk : savF pin S.fr VG = .d (.val (.int .i64 k)) := hk
    rw [e] at hk; cases hk

theorem cell_loop {W : World} {l : Nat} {r : Loop} (h : W.heap[l]? = some (.loop r)) (o : Nat) : W.cell? ⟨l, o, none⟩ = none := by
  cases hc : W.cell? ⟨l, o, none⟩ with
  | none => rfl
  | some u =>
    obtain ⟨ob, h1, h2⟩ := cells_of_cell hc
    rw [h] at h1; cases h1; cases h2
theorem keeps_loop {W : World} {l : Nat} {r : Loop} (o' : Obj) (h : W.heap[l]? = some (.loop r)) (ok : Nat → Prop) : Keeps ok W ok (W.putObj l o') := by
  refine ⟨fun _ h _ => h, by simp [World.putObj], fun b o u _ _ hc => ?_⟩
  by_cases e : b = l
  · subst e; rw [cell_loop h] at hc; cases hc
  · exact (World.cell?_of_block (a := ⟨b, o, none⟩) (World.putObj_heap_other e)).trans hc
theorem blk_not_loop {ok : Nat → Prop} {W : World} {p : Nat × Nat} {blk : Blk} (h : BlkAt ok W p blk) {r : Loop} : W.heap[p.1]? ≠ some (.loop r) := by
  obtain ⟨vs, ex, hh, _⟩ := h
  rw [hh]; intro e; cases e
/-- The record of the loop is turned. -/
theorem R.swapL {W w : World} {ok ex : Nat → Prop} {nt : Nat} {rd : Option Nat} {gv : Nat → Value} {s : AS} {φ : Nat → Nat × Nat} {a : Act} (h : R (rctx W ok nt rd ex gv) s φ a w) {l : Nat} {r : Loop} (o' : Obj) (hl : w.heap[l]? = some (.loop r)) (hlW : l < W.heap.size) :
    R (rctx (W.putObj l o') ok nt rd ex gv) s φ a (w.putObj l o') := by
  have hsz : (W.putObj l o').heap.size = W.heap.size := by simp [World.putObj]
  have hok : okOf (rctx (W.putObj l o') ok nt rd ex gv) φ s = okOf (rctx W ok nt rd ex gv) φ s := by
    funext b; unfold okOf Ctx.mine; simp only [hsz]
  have hk := keeps_loop o' hl (okOf (rctx W ok nt rd ex gv) φ s)
  have hGP : Glob (W.putObj l o') := h.below.gl.1.keeps fun b hb => World.putObj_heap_other fun e => by
    obtain ⟨cs, t, f, hc⟩ := h.below.glob.cells hb
    rw [e, hl] at hc; cases hc
  have hlt : l < w.heap.size := (Array.getElem?_eq_some_iff.1 hl).1
  refine ⟨⟨h.below.os, h.below.tape, h.below.output, by simp [World.putObj]; exact h.below.size, fun k hk1 he => ?_, hGP, h.below.gl.2⟩, ?_, h.size, h.ntv, fun i hi => by rw [hok]; exact AV.rep_keeps hk (h.fr i hi), fun nm blk hn => ?_, fun nm blk hn => ?_, h.inj, fun k _ => ⟨fun _ => False, trivial, fun _ _ h => h, fun _ h => h.elim, fun _ _ h => h⟩⟩
  · rw [hsz] at hk1
    by_cases e : k = l
    · subst e; rw [World.putObj_heap_same hlt, World.putObj_heap_same hlW]
    · rw [World.putObj_heap_other e, World.putObj_heap_other e]; exact h.below.block k hk1 he
  · obtain ⟨Ds, h1, h2, h3⟩ := h.defers
    refine ⟨Ds, h1, h2, fun D hD => ⟨⟨rfl, by rw [hsz]; exact (h3 D hD).1.2⟩, ?_⟩⟩
    have hne : D ≠ l := by rintro rfl; have := (h3 D hD).2; rw [hl] at this; cases this
    exact (World.putObj_heap_other hne).trans (h3 D hD).2
  · have := h.own nm blk hn
    unfold Ctx.mine at *
    rw [hsz]; exact this
  · rw [hok]
    have hb := h.mem nm blk hn
    exact hb.keeps hk (World.putObj_heap_other (fun e => blk_not_loop hb (e ▸ hl)))

/-- What a round leaves. -/
theorem round_RK {w0 W w3 : World} {ok : Nat → Prop} {nt : Nat} {K okA : Nat → Prop} {S t : AS} {φ φ2 φ3 : Nat → Nat × Nat} {a a3 : Act} {M : Nat → Option Blk} {rd : Option Nat} {gv : Nat → Value} {pin : AV} (h : RK (kx w0 ok nt) K S φ a W) (hK : ∀ b, K b → b < W.heap.size)
    (hφ : ∀ m, m ≠ YN → φ2 m = φ m) (hM : ∀ m, m ≠ YN → M m = S.mem m) (hY : M YN ≠ none → ¬ K (φ2 YN).1)
    (hA : ∀ b, okA b → b < W.heap.size ∧ ¬ named S φ b) (hA2 : ∀ b, okA b → b < w0.heap.size → ok b) (hg1 : ∀ j, j < VG → gv j = a.tmps.getD j undef) {n sz cap : Nat} (hg2 : M YN ≠ none → gv VG = .slice (some ⟨(φ2 YN).1, 0, none⟩) n cap ∧ (φ2 YN).2 = cap * sz)
    {l : Nat} {r r3 : Loop} (o' o3 : Obj) (hl : W.heap[l]? = some (.loop r)) (hl0 : w0.heap.size ≤ l) (hl3 : w3.heap[l]? = some (.loop r3))
    (h3 : R (rctx (W.putObj l o') (fun b => kok (kx w0 ok nt) φ S K b ∨ okA b) nt rd (named ⟨savF pin S.fr, M⟩ φ2) gv) t φ3 a3 w3) (hsh : M YN ≠ none → t.mem YN ≠ none ∧ t.fr (GH + VG) = .lsl YN 0 n sz) (hYd : M YN ≠ none → ∀ x, W.heap[(φ2 YN).1]? ≠ some (.deferred x)) :
    RK (kx w0 ok nt) (fun b => K b ∨ okA b ∨ (W.heap.size ≤ b ∧ b < (w3.putObj l o3).heap.size)) (uns t) φ3 a (w3.putObj l o3) ∧ (∀ nm, (uns t).mem nm ≠ none → named S φ (φ3 nm).1 ∨ W.heap.size ≤ (φ3 nm).1) ∧
      (∀ k, k < W.heap.size → k ≠ l → ¬ named S φ k → (M YN ≠ none → k ≠ (φ2 YN).1) → (w3.putObj l o3).heap[k]? = W.heap[k]?) ∧ (M YN ≠ none → φ3 YN = φ2 YN) := by
  have hszW : (W.putObj l o').heap.size = W.heap.size := by simp [World.putObj]
  have hsz3 : (w3.putObj l o3).heap.size = w3.heap.size := by simp [World.putObj]
  have hmine : ∀ b, (rctx (W.putObj l o') (fun b => kok (kx w0 ok nt) φ S K b ∨ okA b) nt rd (named ⟨savF pin S.fr, M⟩ φ2) gv).mine b → W.heap.size ≤ b ∨ named ⟨savF pin S.fr, M⟩ φ2 b := fun b hb => by
    rcases hb with hb | hb
    · exact .inl (by rw [← hszW]; exact hb)
    · exact .inr hb
  have hW0 := h.below.size
  -- an old named block is the caller's, or the one that is shown
  have hnam : ∀ b, named ⟨savF pin S.fr, M⟩ φ2 b → (K b ∧ w0.heap.size ≤ b ∧ named S φ b) ∨ (M YN ≠ none ∧ b = (φ2 YN).1) := by
    rintro b ⟨nm, hnm, e⟩
    have hnm : M nm ≠ none := hnm
    by_cases en : nm = YN
    · subst en; exact .inr ⟨hnm, e.symm⟩
    · rw [hφ nm en] at e
      have hn2 : S.mem nm ≠ none := by rw [← hM nm en]; exact hnm
      obtain ⟨blk, hblk⟩ := Option.ne_none_iff_exists'.1 hn2
      exact .inl ⟨e ▸ h.kn nm hn2, e ▸ h.own nm blk hblk, nm, hn2, e⟩
  have hpin2 : M YN ≠ none → φ3 YN = φ2 YN := fun hY1 => by
    have h1 := h3.fr (GH + VG) (by have : GH = VG + 1 := rfl; omega)
    rw [(hsh hY1).2] at h1
    obtain ⟨cap', h2, _, _, h5⟩ := h1
    have h6 := (slotAt_ge (c := rctx (W.putObj l o') (fun b => kok (kx w0 ok nt) φ S K b ∨ okA b) nt rd (named ⟨savF pin S.fr, M⟩ φ2) gv) (a := a3) (φ := φ3) (i := GH + VG) (by have : GH = VG + 1 := rfl; omega) (by omega)).symm.trans h2
    rw [show GH + VG - GH = VG by omega] at h6
    obtain ⟨h7, h8⟩ := hg2 hY1
    obtain ⟨h9, h10⟩ := sl_inj (h7.symm.trans h6)
    exact Prod.ext h9.symm (by rw [h8, h10]; omega)
  have hpin : M YN ≠ none → (φ3 YN).1 = (φ2 YN).1 := fun h => by rw [hpin2 h]
  have hun : ∀ b, (∀ nm, t.mem nm ≠ none → (φ3 nm).1 ≠ b) → ∀ nm, (uns t).mem nm ≠ none → (φ3 nm).1 ≠ b := fun b hb nm hn => hb nm (by
    have hn : upd t.mem YN none nm ≠ none := hn
    by_cases e : nm = YN
    · subst e; rw [upd_same] at hn; exact absurd rfl hn
    · rwa [upd_ne _ _ e] at hn)
  have hsub : ∀ b, okOf (rctx (W.putObj l o') (fun b => kok (kx w0 ok nt) φ S K b ∨ okA b) nt rd (named ⟨savF pin S.fr, M⟩ φ2) gv) φ3 t b → b < w3.heap.size → kok (kx w0 ok nt) φ3 (uns t) (fun b => K b ∨ okA b ∨ (W.heap.size ≤ b ∧ b < (w3.putObj l o3).heap.size)) b := by
    intro b hb hlt
    rcases hb with ⟨hb1, hb2, hb3⟩ | ⟨hb1, hb2⟩
    · have hb1 : b < W.heap.size := by rw [← hszW]; exact hb1
      have hunn : ∀ nm, t.mem nm ≠ none → (φ3 nm).1 ≠ b := fun nm hn e => by
        obtain ⟨blk, hblk⟩ := Option.ne_none_iff_exists'.1 hn
        rcases hmine _ (h3.own nm blk hblk) with h5 | h5
        · omega
        · exact hb3 (e ▸ h5)
      rcases hb2 with hb2 | hb2
      · refine ⟨?_, .inl hb2.2⟩
        rcases hb2.1 with h5 | h5
        · exact .inl h5
        · exact .inr ⟨h5.1, hun b hunn⟩
      · refine ⟨?_, .inr (.inl hb2)⟩
        rcases Nat.lt_or_ge b w0.heap.size with h5 | h5
        · exact .inl ⟨h5, hA2 b hb2 h5, fun h => h⟩
        · exact .inr ⟨.inl h5, hun b hunn⟩
    · rcases hmine b hb1 with h5 | h5
      · exact ⟨.inr ⟨.inl (Nat.le_trans hW0 h5), hun b hb2⟩, .inr (.inr ⟨h5, by rw [hsz3]; exact hlt⟩)⟩
      · rcases hnam b h5 with ⟨h6, h7, _⟩ | ⟨h6, h7⟩
        · exact ⟨.inr ⟨.inl h7, hun b hb2⟩, .inl h6⟩
        · exact absurd (hpin h6 |>.trans h7.symm) (hb2 YN (hsh h6).1)
  have hk : Keeps (okOf (rctx (W.putObj l o') (fun b => kok (kx w0 ok nt) φ S K b ∨ okA b) nt rd (named ⟨savF pin S.fr, M⟩ φ2) gv) φ3 t) w3 (kok (kx w0 ok nt) φ3 (uns t) (fun b => K b ∨ okA b ∨ (W.heap.size ≤ b ∧ b < (w3.putObj l o3).heap.size))) (w3.putObj l o3) := by
    have h5 := keeps_loop o3 hl3 (okOf (rctx (W.putObj l o') (fun b => kok (kx w0 ok nt) φ S K b ∨ okA b) nt rd (named ⟨savF pin S.fr, M⟩ φ2) gv) φ3 t)
    exact ⟨fun b hb hlt => hsub b hb hlt, h5.size, h5.cell⟩
  have hold : ∀ k, k < W.heap.size → k ≠ l → ¬ named ⟨savF pin S.fr, M⟩ φ2 k → (w3.putObj l o3).heap[k]? = W.heap[k]? := fun k hk1 hkl hkn => by
    rw [World.putObj_heap_other hkl, h3.below.block k (by rw [hszW]; exact hk1) hkn, World.putObj_heap_other hkl]
  have hmem : ∀ nm blk, (uns t).mem nm = some blk → nm ≠ YN ∧ t.mem nm = some blk := fun nm blk hn => by
    have hn : upd t.mem YN none nm = some blk := hn
    by_cases e : nm = YN
    · subst e; rw [upd_same] at hn; cases hn
    · exact ⟨e, by rwa [upd_ne _ _ e] at hn⟩
  have hown : ∀ nm blk, (uns t).mem nm = some blk → w0.heap.size ≤ (φ3 nm).1 ∧ ((K (φ3 nm).1 ∧ named S φ (φ3 nm).1) ∨ W.heap.size ≤ (φ3 nm).1) := fun nm blk hn => by
    obtain ⟨e, hn2⟩ := hmem nm blk hn
    rcases hmine _ (h3.own nm blk hn2) with h5 | h5
    · exact ⟨Nat.le_trans hW0 h5, .inr h5⟩
    · rcases hnam _ h5 with ⟨h6, h7, h8⟩ | ⟨h6, h7⟩
      · exact ⟨h7, .inl ⟨h6, h8⟩⟩
      · exact absurd (h7.trans (hpin h6).symm) (h3.inj nm YN (by rw [hn2]; simp) (hsh h6).1 e)
  have hnmk : ∀ k, k < w0.heap.size → ¬ named ⟨savF pin S.fr, M⟩ φ2 k := fun k hk1 hn => by
    rcases hnam k hn with ⟨_, h7, _⟩ | ⟨h6, h7⟩
    · omega
    · exact hY h6 (h7 ▸ h.k0 k hk1)
  refine ⟨?_, fun nm hn => ?_, fun k hk1 hkl hkn hky => hold k hk1 hkl fun hn => ?_, hpin2⟩
  rotate_left
  · obtain ⟨blk, hblk⟩ := Option.ne_none_iff_exists'.1 hn
    rcases (hown nm blk hblk).2 with h5 | h5
    · exact .inl h5.2
    · exact .inr h5
  · rcases hnam k hn with ⟨_, _, h7⟩ | ⟨h6, h7⟩
    · exact hkn h7
    · exact hky h6 h7
  refine ⟨⟨h3.below.os.trans h.below.os, h3.below.tape.trans h.below.tape, h3.below.output.trans h.below.output, ?_, fun k hk1 => ?_⟩, fun b hb => .inl (h.k0 b hb), ?_, fun D hD => .inl (h.kd D hD), h.size, h.ntv, fun i hi => ?_, fun nm blk hn => (hown nm blk hn).1, fun nm hn => ?_, fun nm blk hn => ?_, fun x y hx hy hxy => ?_, h.gl⟩
  · rw [hsz3]; exact Nat.le_trans hW0 (by rw [← hszW]; exact h3.below.size)
  · exact (hold k (Nat.lt_of_lt_of_le hk1 hW0) (by have : k < w0.heap.size := hk1; omega) (hnmk k hk1)).trans (h.below.block k hk1)
  · refine h.defers.keeps fun D hD0 hD => hold D (Array.getElem?_eq_some_iff.1 hD).1 (by rintro rfl; rw [hl] at hD; cases hD) fun hn => ?_
    obtain ⟨nm, hnm, e⟩ := hn
    have hnm : M nm ≠ none := hnm
    by_cases en : nm = YN
    · subst en; exact hYd hnm _ (e ▸ hD)
    · rw [hφ nm en] at e
      obtain ⟨blk, hblk⟩ := Option.ne_none_iff_exists'.1 (show S.mem nm ≠ none by rw [← hM nm en]; exact hnm)
      obtain ⟨vs, ex, hh, _⟩ := h.mem nm blk hblk
      rw [e, hD] at hh; cases hh
  · show (unsF t.fr i).rep _ φ3 _ _
    unfold unsF
    cases hb : Nat.blt i VG
    · cases hb2 : Nat.ble PN i
      · simp only [cond_false, AV.rep, DV.rep]
      · have hpn : PN ≤ i := Nat.le_of_ble_eq_true hb2
        have h5 := h3.fr i (fun e => by have h6 : 3000000 ≤ i := hpn; have h7 : i = 999999 := e; omega)
        rw [slotAt_hi hpn] at h5
        simp only [cond_false, cond_true]
        rw [slotAt_hi hpn]
        exact keepV_rep h5
    · simp only [cond_true]
      have hj : i < VG := Nat.le_of_ble_eq_true hb
      have h5 := h3.fr (GH + i) (by have : GH = VG + 1 := rfl; omega)
      have h6 : slotAt (rctx (W.putObj l o') (fun b => kok (kx w0 ok nt) φ S K b ∨ okA b) nt rd (named ⟨savF pin S.fr, M⟩ φ2) gv) a3 φ3 (GH + i) = slotAt (kx w0 ok nt) a φ3 i := by
        rw [slotAt_lt hj, slotAt_ge (by have : GH = VG + 1 := rfl; omega) (by omega)]
        rw [show GH + i - GH = i by omega]
        exact hg1 i hj
      rw [h6] at h5
      exact AV.rep_kill (fun _ _ => rfl) (AV.rep_keeps hk h5)
  · obtain ⟨blk, hblk⟩ := Option.ne_none_iff_exists'.1 hn
    obtain ⟨e, hn2⟩ := hmem nm blk hblk
    rcases (hown nm blk hblk).2 with h5 | h5
    · exact .inl h5.1
    · exact .inr (.inr ⟨h5, by rw [hsz3]; exact h3.lt (by rw [hn2]; simp)⟩)
  · obtain ⟨e, hn2⟩ := hmem nm blk hn
    have hb := h3.mem nm blk hn2
    exact hb.keeps hk (World.putObj_heap_other (fun e => blk_not_loop hb (e ▸ hl3)))
  · obtain ⟨bx, hbx⟩ := Option.ne_none_iff_exists'.1 hx
    obtain ⟨bY, hby⟩ := Option.ne_none_iff_exists'.1 hy
    exact h3.inj x y (by rw [(hmem x bx hbx).2]; simp) (by rw [(hmem y bY hby).2]; simp) hxy

end Go.Proofs.YtfcfmpdpjmbcnaaGreat

/- Ranges over functions: the caller's rule. Nothing of the program. -/
namespace Go.Proofs.YtfcfmpdpjmbcnaaGreat
open Go.RowKit

def YA.cnt : YA → Nat
  | .gv ds => ds.length
  | .sl _ _ _ _ => 1
/-- How a round may end. -/
def RPost (Q : Exit → AS → Prop) (next : AS → Prop) (d : YA) (e : Exit) (t : AS) : Prop := shown t d ∧ match e with
  | .normal => next (uns t)
  | .ret => Q .ret (uns t)
  | .exit id => Q (.exit id) (uns t)
  | .goto l => Q (.goto l) (uns t)
  | _ => False

theorem putL_mem : ∀ (ps : List Nat) (xs : List AV) (s : AS), (putL s ps xs).mem = s.mem
  | [], xs, s => by cases xs <;> rfl
  | _ :: _, [], _ => rfl
  | p :: ps, x :: xs, s => by
    have := putL_mem ps xs ⟨upd s.fr p x, s.mem⟩
    exact this

theorem R.putLoop {w0 w : World} {ok : Nat → Prop} {nt : Nat} {t : AS} {φ : Nat → Nat × Nat} {a : Act} (h : R (kx w0 ok nt) t φ a w) {l : Nat} {r : Loop} (o' : Obj) (hl : w.heap[l]? = some (.loop r)) (hl0 : w0.heap.size ≤ l) : R (kx w0 ok nt) t φ a (w.putObj l o') := by
  have hk := keeps_loop o' hl (okOf (kx w0 ok nt) φ t)
  refine ⟨⟨h.below.os, h.below.tape, h.below.output, by simp [World.putObj]; exact h.below.size, fun k hk1 he => (World.putObj_heap_other (by have : k < w0.heap.size := hk1; omega)).trans (h.below.block k hk1 he), h.below.gl⟩, h.defers.keeps fun D _ hD => World.putObj_heap_other (by rintro rfl; rw [hl] at hD; cases hD), h.size, h.ntv, fun i hi => AV.rep_keeps hk (h.fr i hi), h.own, fun nm blk hn => ?_, h.inj, fun k _ => ⟨fun _ => False, trivial, fun _ _ h => h, fun _ h => h.elim, fun _ _ h => h⟩⟩
  have hb := h.mem nm blk hn
  exact hb.keeps hk (World.putObj_heap_other (fun e => blk_not_loop hb (e ▸ hl)))
theorem R.addMark {w0 w : World} {ok : Nat → Prop} {nt : Nat} {t : AS} {φ : Nat → Nat × Nat} {a : Act} (h : R (kx w0 ok nt) t φ a w) {D : Nat} (hD : w.heap[D]? = some (.deferred (some []))) (hD0 : w0.heap.size ≤ D) (hn : ({ target := .collected D, args := #[] } : Deferred) ∉ a.defers) :
    R (kx w0 ok nt) t φ { a with defers := [{ target := .collected D, args := #[] }] ++ a.defers } w := by
  obtain ⟨Ds, h1, h2, h3⟩ := h.defers
  refine ⟨h.below, ⟨D :: Ds, by rw [h1]; rfl, List.nodup_cons.2 ⟨fun hm => hn (by rw [h1]; exact List.mem_map.2 ⟨D, hm, rfl⟩), h2⟩, fun E hE => ?_⟩, h.size, h.ntv, h.fr, h.own, h.mem, h.inj, fun k _ => ⟨fun _ => False, trivial, fun _ _ h => h, fun _ h => h.elim, fun _ _ h => h⟩⟩
  rcases List.mem_cons.1 hE with rfl | hE
  · exact ⟨⟨rfl, hD0⟩, hD⟩
  · exact h3 E hE

theorem nomatch_gv {ds : List DV} {ty : TypeId} {cells : List DV} {n sz : Nat} {p : Prop} (e : YA.gv ds = .sl ty cells n sz) : p := by cases e
/-- The start of a round. -/
theorem round_start {w0 W : World} {ok : Nat → Prop} {nt : Nat} {K okA : Nat → Prop} {S : AS} {φ : Nat → Nat × Nat} {a : Act} {psl : List Nat} {d : YA} {args : List Value} (h : RK (kx w0 ok nt) K S φ a W) (hK : ∀ b, K b → b < W.heap.size) (hd : d.rep K okA W args)
    (hA : ∀ b, okA b → b < W.heap.size ∧ ¬ named S φ b) (hps : ∀ p ∈ psl, p < nt) (hcnt : d.cnt = psl.length) (rd : Option Nat) :
    ∃ (M : Nat → Option Blk) (φ2 : Nat → Nat × Nat) (pin : AV) (gv : Nat → Value) (n sz cap : Nat), (∀ m, m ≠ YN → φ2 m = φ m) ∧ (∀ m, m ≠ YN → M m = S.mem m) ∧ (M YN ≠ none → ¬ K (φ2 YN).1) ∧ (∀ j, j < VG → gv j = a.tmps.getD j undef) ∧ (M YN ≠ none → gv VG = .slice (some ⟨(φ2 YN).1, 0, none⟩) n cap ∧ (φ2 YN).2 = cap * sz) ∧
      (M YN ≠ none → ∀ x, W.heap[(φ2 YN).1]? ≠ some (.deferred x)) ∧ (∀ t, shown t d → M YN ≠ none → t.mem YN ≠ none ∧ t.fr (GH + VG) = .lsl YN 0 n sz) ∧ (bodyS S psl d).mem = M ∧ (M YN ≠ none → d.shows args (φ2 YN).1) ∧
      (∀ ty cells n sz g cap, d = .sl ty cells n sz → args = [.slice (some ⟨g, 0, none⟩) n cap] → φ2 YN = (g, cap * sz) ∧ M YN ≠ none ∧ DV.flatL cells = true) ∧
      R (rctx W (fun b => kok (kx w0 ok nt) φ S K b ∨ okA b) nt rd (named ⟨savF pin S.fr, M⟩ φ2) gv) (bodyS S psl d) φ2 { tmps := (psl.zip args).foldl (fun t (p, v) => t.setIfInBounds p v) a.tmps, defers := [] } W := by
  cases d with
  | gv ds =>
    have hd : DV.repL okA W ds args := hd
    have hlen := repL_length hd
    have hc : ds.length = psl.length := hcnt
    have hM0 : upd S.mem YN none YN = none := upd_same _ _ _
    have hbase := savF_R (rd := rd) (gv := fun j => a.tmps.getD j undef) (pin := .d .any) (φ2 := φ) (M := upd S.mem YN none) (okA := okA) h hK (fun _ _ => rfl) (fun m hm => upd_ne _ _ hm) (fun hn => absurd hM0 hn) (fun blk hn => by rw [hM0] at hn; cases hn) (fun hn => absurd hM0 hn) hA (fun _ _ => rfl) (fun _ => any_rep)
    refine ⟨upd S.mem YN none, φ, .d .any, fun j => a.tmps.getD j undef, 0, 0, 0, fun _ _ => rfl, fun m hm => upd_ne _ _ hm, fun hn => absurd hM0 hn, fun _ _ => rfl, fun hn => absurd hM0 hn, fun hn => absurd hM0 hn, fun _ _ hn => absurd hM0 hn, putL_mem _ _ _, fun hn => absurd hM0 hn, fun _ _ _ _ _ _ e _ => nomatch_gv e, ?_⟩
    refine putL_R psl (ds.map .d) args _ _ hbase hps (by simp [hc]) (by omega) fun j x v hx hv => ?_
    rw [List.getElem?_map] at hx
    obtain ⟨x', hx', rfl⟩ := Option.map_eq_some_iff.1 hx
    obtain ⟨u, hu, hru⟩ := repL_get hd hx'
    rw [hv] at hu; cases hu
    show DV.rep _ W x' v
    refine DV.rep_keeps (Keeps.wide fun b hb _ => ?_) x' v hru
    refine .inl ⟨(hA b hb).1, .inr hb, ?_⟩
    rintro ⟨nm, hnm, e⟩
    have hnm : upd S.mem YN none nm ≠ none := hnm
    by_cases en : nm = YN
    · subst en; exact hnm hM0
    · rw [upd_ne _ _ en] at hnm
      exact (hA b hb).2 ⟨nm, hnm, e⟩
  | sl ty cells n sz =>
    obtain ⟨g, cap, rfl, h1, h2, h3, h4, h5, h6⟩ := hd
    have hc : 1 = psl.length := hcnt
    have hM0 : upd S.mem YN (some ⟨ty, cells⟩) YN = some ⟨ty, cells⟩ := upd_same _ _ _
    have hφ0 : upd φ YN (g, cap * sz) YN = (g, cap * sz) := upd_same _ _ _
    have hpinr : ∀ ok', (AV.lsl YN 0 n sz).rep ok' (upd φ YN (g, cap * sz)) W (.slice (some ⟨g, 0, none⟩) n cap) := fun ok' => ⟨cap, by rw [hφ0], h1, h2, by rw [hφ0]; simp⟩
    have hgv1 : ∀ j, j < VG → (fun j => if j = VG then Value.slice (some ⟨g, 0, none⟩) n cap else a.tmps.getD j undef) j = a.tmps.getD j undef := fun j hj => if_neg (Nat.ne_of_lt hj)
    have hgv2 : (fun j => if j = VG then Value.slice (some ⟨g, 0, none⟩) n cap else a.tmps.getD j undef) VG = .slice (some ⟨g, 0, none⟩) n cap := if_pos rfl
    have hbase := savF_R (rd := rd) (gv := fun j => if j = VG then .slice (some ⟨g, 0, none⟩) n cap else a.tmps.getD j undef) (pin := .lsl YN 0 n sz) (φ2 := upd φ YN (g, cap * sz)) (M := upd S.mem YN (some ⟨ty, cells⟩)) (okA := okA) h hK (fun m hm => upd_ne _ _ hm) (fun m hm => upd_ne _ _ hm) (fun _ => by rw [hφ0]; exact h3)
      (fun blk hn => by
        rw [hM0] at hn; cases hn
        rw [hφ0]
        exact h6.keeps (Keeps.wide fun b hb _ => .inr hb) rfl) (fun _ => by rw [hφ0]; exact h4) hA hgv1 (fun ok' => by rw [if_pos rfl]; exact hpinr ok')
    refine ⟨upd S.mem YN (some ⟨ty, cells⟩), upd φ YN (g, cap * sz), .lsl YN 0 n sz, fun j => if j = VG then .slice (some ⟨g, 0, none⟩) n cap else a.tmps.getD j undef, n, sz, cap, fun m hm => upd_ne _ _ hm, fun m hm => upd_ne _ _ hm, fun _ => by rw [hφ0]; exact h3, hgv1, fun _ => ⟨by rw [hφ0]; exact hgv2, by rw [hφ0]⟩, fun _ x hx => ?_, fun t ht _ => ⟨by rw [ht.1]; simp, ht.2⟩, putL_mem _ _ _, fun _ => ⟨cap, by rw [hφ0]⟩, fun ty' cells' n' sz' g' cap' e1 e2 => ?_, ?_⟩
    · rw [hφ0] at hx
      obtain ⟨vs, ex, hh, _⟩ := h6
      rw [hx] at hh; cases hh
    · cases e1
      injection e2 with e2 _
      obtain ⟨e3, e4⟩ := sl_inj e2
      subst e3; subst e4
      exact ⟨hφ0, by rw [hM0]; simp, h5⟩
    · refine putL_R psl [.lsl YN 0 n sz] [.slice (some ⟨g, 0, none⟩) n cap] _ _ hbase hps (by simpa using hc) (by simpa using hc) fun j x v hx hv => ?_
      cases j with
      | zero => cases hx; cases hv; exact hpinr _
      | succ j => simp at hx

theorem YA.rep_len {K okA : Nat → Prop} {W : World} {d : YA} {args : List Value} (h : d.rep K okA W args) : args.length = d.cnt := by
  cases d with
  | gv ds => exact repL_length h
  | sl ty cells n sz => obtain ⟨g, cap, rfl, _⟩ := h; rfl

/-- A function value with what it is bound to and has captured. -/
inductive FnB (s : AS) (y : Operand) (f : FuncId) : List DV → List DV → Prop
  | val (h : s.ev y = .d (.val (.func (.func f) #[] #[]))) : FnB s y f [] []
  | fn {bs caps} (h : s.ev y = .d (.fn (.func f) bs caps)) : FnB s y f bs caps

/-- A range over a function: st k x is the state behind k rounds. -/
theorem awp_rangeFunc {P : Program} {w0 : World} {ok : Nat → Prop} {nt : Nat} {Q : Exit → AS → Prop} {s : AS} {g : Operand} {psl : List Nat} {assign body : Code} {gf : FuncId} {bs caps : List DV} {xs : List YA} {fin : Bool} {α : Type} (st : Nat → α → AS) (I : Nat → α → Prop) (x0 : α)
    (he : Enters P gf) (hg : FnB s g gf bs caps) (hAY : AY P gf bs caps xs fin) (hI : I 0 x0) (h0 : s.le (st 0 x0)) (hps : ∀ p ∈ psl, p < nt) (hcnt : ∀ d ∈ xs, d.cnt = psl.length)
    (round : ∀ k x d, I k x → xs[k]? = some d → ∀ W ok' rd ex gv, AWp P (one (rctx W ok' nt rd ex gv)) assign (fun e t => e = .normal ∧ ∀ W', AWp P (one (rctx W' ok' nt rd ex gv)) body (RPost Q (fun u => ∃ y, I (k + 1) y ∧ u.le (st (k + 1) y)) d) t) (bodyS (st k x) psl d))
    (never : fin = false → ∀ x, ¬ I xs.length x) (after : fin = true → ∀ x, I xs.length x → Q .normal (st xs.length x)) : AWp P (ctx0 w0 ok nt) (.rangeFunc g psl.toArray assign body) Q s := ⟨fun φ a w hR => by
  replace hR := RF.one.1 hR
  refine wpIn_rangeFunc (F := fz none) (n := 0) fun fn _ => ?_
  obtain ⟨vs, us, hgv, hvs, hus⟩ : ∃ vs us : List Value, a.eval g = .func (.func gf) vs.toArray us.toArray ∧ DV.repL (okOf (kx w0 ok nt) φ s) w bs vs ∧ DV.repL (okOf (kx w0 ok nt) φ s) w caps us := by
    have h1 := hR.ev g
    cases hg with
    | val h => rw [h] at h1; exact ⟨[], [], (rep_val (ok := okOf (kx w0 ok nt) φ s) (w := w)).1 h1, repL_nil.2 rfl, repL_nil.2 rfl⟩
    | fn h =>
      rw [h] at h1
      have h1 : DV.rep _ w _ _ := h1
      rw [DV.rep] at h1
      obtain ⟨vs, us, e, h2, h3⟩ := h1
      exact ⟨vs, us, e, h2, h3⟩
  obtain ⟨rec, hrec⟩ : ∃ rec : LoopState → Option Code → Loop, rec = fun st pe => { state := st, pending := pe, fn, tmps := a.tmps, params := psl.toArray, assign, body, defers := w.heap.size } := ⟨_, rfl⟩
  obtain ⟨W1, hW1⟩ : ∃ W1, (w.alloc (.deferred (some []))).alloc (.loop (rec .ready none)) = W1 := ⟨_, rfl⟩
  have hsz1 : W1.heap.size = w.heap.size + 2 := by rw [← hW1]; simp
  have hL1 : W1.heap[w.heap.size + 1]? = some (.loop (rec .ready none)) := by
    rw [← hW1]; have := World.alloc_heap_new (w.alloc (.deferred (some []))) (.loop (rec .ready none)); rwa [World.size_alloc] at this
  have hD1 : W1.heap[w.heap.size]? = some (.deferred (some [])) := by
    rw [← hW1]; exact (Below.heap_alloc _ _ _ (by simp)).trans (World.alloc_heap_new w _)
  have hb1 : Below w.heap.size w W1 := by
    rw [← hW1]; exact ((Below.refl _ w).alloc (Nat.le_refl _) _).alloc (by simp) _
  have hR1 := (hR.below' hb1).weaken h0
  have hK1 := RK.ofR hR1
  have hw0 : w0.heap.size ≤ w.heap.size := hR.below.size
  have hmk : ({ target := .collected w.heap.size, args := #[] } : Deferred) ∉ a.defers := fun hm => Nat.lt_irrefl _ ((RK.ofR hR).kd _ hm)
  refine ⟨w.heap.size + 1, [{ target := .collected w.heap.size, args := #[] }], W1, { target := .fn (.func gf) us.toArray, args := vs.toArray ++ #[.func (.yield (w.heap.size + 1)) #[] #[]] }, W1, gf,
    vs.toArray ++ #[.func (.yield (w.heap.size + 1)) #[] #[]] ++ us.toArray, W1, ?_, ?_, fun _ _ => trivial, ?_, fun h => by simp [fz, Fence.wide] at h, ?_⟩
  · rw [← hW1, hrec]; exact run_enterLoop_outer _ _ _ _ _
  · simp only [resolve, hgv]
    simp [go_sem]
  · have he' : (callFunc gf (vs.toArray ++ #[.func (.yield (w.heap.size + 1)) #[] #[]] ++ us.toArray)).run P W1 = .ok (.enter gf (vs.toArray ++ #[.func (.yield (w.heap.size + 1)) #[] #[]] ++ us.toArray)) W1 := he _ W1
    simp [invoke, go_sem] at he' ⊢
    exact he'
  -- the iterator's contract
  have hfz : ∀ b, (okOf (kx w0 ok nt) φ s b ∧ b < w.heap.size) → b < W1.heap.size := fun b hb => by omega
  have hbs : DV.repL (fun b => okOf (kx w0 ok nt) φ s b ∧ b < w.heap.size) W1 bs vs := DV.repL_keeps ⟨fun b hb hl => ⟨hb, hl⟩, hb1.size, fun b o u _ hl hc => (hb1.cell (p := ⟨b, o, none⟩) hl).trans hc⟩ _ _ hvs
  have hcaps : DV.repL (fun b => okOf (kx w0 ok nt) φ s b ∧ b < w.heap.size) W1 caps us := DV.repL_keeps ⟨fun b hb hl => ⟨hb, hl⟩, hb1.size, fun b o u _ hl hc => (hb1.cell (p := ⟨b, o, none⟩) hl).trans hc⟩ _ _ hus
  haveI : GlobI W1 := ⟨hR.below.glob.keeps fun b hb => hb1.block b (hR.below.glob.lt hb)⟩
  have key := hAY (fun b => okOf (kx w0 ok nt) φ s b ∧ b < w.heap.size) W1 vs us (w.heap.size + 1)
    (fun k K W => ∃ x φ', I k x ∧ RK (kx w0 ok nt) K (st k x) φ' a W ∧ (∀ b, named (st k x) φ' b → ¬ (okOf (kx w0 ok nt) φ s b ∧ b < w.heap.size)) ∧ W.heap[w.heap.size + 1]? = some (.loop (rec .ready none)) ∧ W.heap[w.heap.size]? = some (.deferred (some [])) ∧ K (w.heap.size + 1) ∧ K w.heap.size)
    (fun k K W => ∃ cd t φ', RK (kx w0 ok nt) K t φ' a W ∧ W.heap[w.heap.size + 1]? = some (.loop (rec .done (some cd))) ∧ W.heap[w.heap.size]? = some (.deferred (some [])) ∧ K (w.heap.size + 1) ∧ K w.heap.size ∧ ((cd = .ret ∧ Q .ret t) ∨ (∃ id, cd = .exit id ∧ Q (.exit id) t) ∨ (∃ l', cd = .goto l' ∧ Q (.goto l') t)))
    hbs hcaps (fun hfin K W ⟨x, _, h, _⟩ => never hfin x h) hfz
    (fun k K W W' ⟨x, φ', h1, h2, h3, h4, h5, h6, h7⟩ hs hb => ⟨x, φ', h1, h2.stable hs hb, h3, (hb _ h6).trans h4, (hb _ h7).trans h5, h6, h7⟩)
    (fun k K W W' ⟨cd, t, φ', h1, h2, h3, h4, h5, h6⟩ hs hb => ⟨cd, t, φ', h1.stable hs hb, (hb _ h4).trans h2, (hb _ h5).trans h3, h4, h5, h6⟩)
    ?_ (· < W1.heap.size) ⟨x0, φ, hI, hK1, ?_, hL1, hD1, by omega, by omega⟩ (fun b => Iff.rfl)
  · -- behind the iterator
    have harg : (vs.toArray ++ #[Value.func (.yield (w.heap.size + 1)) #[] #[]] ++ us.toArray) = (vs ++ .func (.yield (w.heap.size + 1)) #[] #[] :: us).toArray := by simp
    rw [harg]
    refine callsIn_fz (key.mono ?_)
    rintro e w3 ⟨⟨v, rfl⟩, hs3, K', hK', hJ | ⟨k, hJ⟩⟩
    · obtain ⟨x, φ', hIx, hrk, _, hl, hD, _, _⟩ := hJ
      have hend : (Instr.endLoop (w.heap.size + 1)).run P w3 = .ok none (w3.putObj (w.heap.size + 1) (.loop { rec .ready none with state := .exhausted })) := by
        have hr := run_endLoop (P := P) hl (by rw [hrec]; simp)
        rw [hrec] at hr ⊢; exact hr
      refine ⟨none, _, hend, ?_⟩
      have h1 := hrk.toR.addMark hD hw0 hmk
      refine ⟨st xs.length x, φ', ?_, RF.one.2 (h1.putLoop _ hl (by omega))⟩
      cases hfin : fin with
      | false => exact absurd hIx (never hfin x)
      | true => exact after hfin x hIx
    · obtain ⟨cd, t, φ', hrk, hl, hD, _, _, hc⟩ := hJ
      have hend : (Instr.endLoop (w.heap.size + 1)).run P w3 = .ok (some cd) (w3.putObj (w.heap.size + 1) (.loop { rec .done (some cd) with state := .exhausted })) := by
        have hr := run_endLoop (P := P) hl (by rw [hrec]; simp)
        rw [hrec] at hr ⊢; exact hr
      refine ⟨some cd, _, hend, ?_⟩
      have h1 := (hrk.toR.addMark hD hw0 hmk).putLoop (.loop { rec .done (some cd) with state := .exhausted }) hl (by omega)
      rcases hc with ⟨rfl, hq⟩ | ⟨id, rfl, hq⟩ | ⟨l', rfl, hq⟩
      · exact wpIn_ret ⟨t, φ', hq, RF.one.2 h1⟩
      · exact wpIn_exit ⟨t, φ', hq, RF.one.2 h1⟩
      · exact wpIn_goto ⟨t, φ', hq, RF.one.2 h1⟩
  · -- one round
    rintro k K W d args okA hd ⟨x, φ', hIx, hrk, hnf, hl, hD, hKl, hKD⟩ hKlt hrep hokA
    have hcn := hcnt d (List.mem_of_getElem? hd)
    have hlen := YA.rep_len hrep
    have hy := run_yield (P := P) (args := args.toArray) hl (by rw [hrec]; simp [hlen, hcn])
    have hlW : w.heap.size + 1 < W.heap.size := hKlt _ hKl
    have hA1 : ∀ b, okA b → b < W.heap.size ∧ ¬ named (st k x) φ' b := fun b hb => by
      obtain ⟨h1, h2⟩ := hokA b hb
      refine ⟨h1, fun hn => ?_⟩
      rcases h2 with h2 | h2
      · exact hnf b hn h2
      · obtain ⟨nm, hnm, e⟩ := hn
        exact h2 (e ▸ hrk.kn nm hnm)
    have hA2 : ∀ b, okA b → b < w0.heap.size → ok b := fun b hb hlt => by
      rcases (hokA b hb).2 with h2 | h2
      · rcases h2.1 with h3 | h3
        · exact h3.2.1
        · rcases h3.1 with h4 | h4
          · have : w0.heap.size ≤ b := h4
            omega
          · exact h4.elim
      · exact absurd (hrk.k0 b hlt) h2
    obtain ⟨M, φ2, pin, gv, n, sz, cap, hφ, hM, hY, hg1, hg2, hYd, hsh, hmemB, hshow, hslv, hRs⟩ := round_start (psl := psl) hrk hKlt hrep hA1 hps hcn (some (w.heap.size + 1))
    have hnl : ∀ {o : Obj} {b : Nat}, o.isCells = false → W.heap[b]? = some o → ¬ named ⟨savF pin (st k x).fr, M⟩ φ2 b := fun ho hb ⟨nm, hnm, e⟩ => by
      have hnm : (bodyS (st k x) psl d).mem nm ≠ none := by rw [hmemB]; exact hnm
      obtain ⟨blk, hblk⟩ := Option.ne_none_iff_exists'.1 hnm
      obtain ⟨vs, ex, hh, _⟩ := hRs.mem nm blk hblk
      rw [e, hb] at hh; cases hh; cases ho
    refine ⟨fn, _, assign, body, by rw [hrec] at hy; exact hy, roundIn_of_wpIn (F := Fence.wide) (n := 0) trivial ?_⟩
    have htm : (psl.toArray.zip args.toArray).foldl (fun tmps (t, a) => tmps.setIfInBounds t a) a.tmps = (psl.zip args).foldl (fun t (p, v) => t.setIfInBounds p v) a.tmps := by simp
    rw [htm]
    refine wpIn_mono ((round k x d hIx hd W _ _ _ _).run _ _ _ (RF.one.2 hRs)) ?_
    rintro e a1 w1 ⟨t1, φ1, ⟨rfl, hbody⟩, hRa⟩
    replace hRa := RF.one.1 hRa
    have hl1 : w1.heap[w.heap.size + 1]? = some (.loop (rec .ready none)) := (hRa.below.block _ hlW (hnl rfl hl)).trans hl
    refine ⟨_, run_beginRound hl1 (by rw [hrec]), ?_⟩
    have hRb := hRa.swapL (.loop { rec .ready none with state := .busy }) hl1 hlW
    refine wpIn_mono ((hbody _).run _ _ _ (RF.one.2 hRb)) ?_
    rintro e a3 w3 ⟨t, φ3, ⟨hshn, hpost⟩, hRc⟩
    replace hRc := RF.one.1 hRc
    have hl3 : w3.heap[w.heap.size + 1]? = some (.loop { rec .ready none with state := .busy }) := (hRc.below.block _ (by simp [World.putObj]; exact hlW) (hnl rfl hl)).trans (World.putObj_heap_same hlW)
    have fin : ∀ (jump : Option Code), (Instr.endRound (w.heap.size + 1) jump).run P w3 = .ok (.bool jump.isNone) (w3.putObj (w.heap.size + 1) (.loop (rec (if jump.isNone then .ready else .done) jump))) ∧
        (SameW W (w3.putObj (w.heap.size + 1) (.loop (rec (if jump.isNone then .ready else .done) jump))) ∧ (Glob W → Glob (w3.putObj (w.heap.size + 1) (.loop (rec (if jump.isNone then .ready else .done) jump)))) ∧ ∃ K', (∀ b, K b → K' b) ∧ (∀ b, K' b → K b ∨ okA b ∨ W.heap.size ≤ b) ∧ (∀ b, K' b → b < (w3.putObj (w.heap.size + 1) (.loop (rec (if jump.isNone then .ready else .done) jump))).heap.size) ∧
          (∀ b, b < W.heap.size → ((okOf (kx w0 ok nt) φ s b ∧ b < w.heap.size) ∨ ¬ K b) → ¬ d.shows args b → (w3.putObj (w.heap.size + 1) (.loop (rec (if jump.isNone then .ready else .done) jump))).heap[b]? = W.heap[b]?) ∧
          (∀ ty cells n sz g cap, d = .sl ty cells n sz → args = [.slice (some ⟨g, 0, none⟩) n cap] → BlkAt (fun _ => False) (w3.putObj (w.heap.size + 1) (.loop (rec (if jump.isNone then .ready else .done) jump))) (g, cap * sz) ⟨ty, cells⟩) ∧
          RK (kx w0 ok nt) K' (uns t) φ3 a (w3.putObj (w.heap.size + 1) (.loop (rec (if jump.isNone then .ready else .done) jump))) ∧ (∀ b, named (uns t) φ3 b → ¬ (okOf (kx w0 ok nt) φ s b ∧ b < w.heap.size)) ∧ (w3.putObj (w.heap.size + 1) (.loop (rec (if jump.isNone then .ready else .done) jump))).heap[w.heap.size + 1]? = some (.loop (rec (if jump.isNone then .ready else .done) jump)) ∧
          (w3.putObj (w.heap.size + 1) (.loop (rec (if jump.isNone then .ready else .done) jump))).heap[w.heap.size]? = some (.deferred (some [])) ∧ K' (w.heap.size + 1) ∧ K' w.heap.size) := fun jump => by
      have hend := run_endRound (P := P) jump hl3
      have hrun : (Instr.endRound (w.heap.size + 1) jump).run P w3 = .ok (.bool jump.isNone) (w3.putObj (w.heap.size + 1) (.loop (rec (if jump.isNone then .ready else .done) jump))) := by
        rw [hrec] at hend ⊢; exact hend
      obtain ⟨q1, q2, q3, q4⟩ := round_RK (pin := pin) (n := n) (sz := sz) (cap := cap) hrk hKlt hφ hM hY hA1 hA2 hg1 hg2 (.loop { rec .ready none with state := .busy }) (.loop (rec (if jump.isNone then .ready else .done) jump)) hl (by omega) hl3 hRc (hsh t hshn) hYd
      have hs3 : SameW W w3 := (SameW.putObj W _ _).trans hRc.below.same
      have hs4 : SameW W (w3.putObj (w.heap.size + 1) (.loop (rec (if jump.isNone then .ready else .done) jump))) := hs3.trans (SameW.putObj w3 _ _)
      refine ⟨hrun, hs4, fun _ => hRc.below.glob.putLoop hl3 _, _, fun b hb => .inl hb, fun b hb => ?_, fun b hb => ?_, fun b hb1 hb2 hb3 => ?_, fun ty cells n' sz' g' cap' e1 e2 => ?_, q1, fun b hb => ?_, World.putObj_heap_same (Array.getElem?_eq_some_iff.1 hl3).1, ?_, .inl hKl, .inl hKD⟩
      · rcases hb with hb | hb | hb
        · exact .inl hb
        · exact .inr (.inl hb)
        · exact .inr (.inr hb.1)
      · rcases hb with hb | hb | hb
        · exact Nat.lt_of_lt_of_le (hKlt b hb) hs4.size
        · exact Nat.lt_of_lt_of_le (hA1 b hb).1 hs4.size
        · exact hb.2
      · refine q3 b hb1 ?_ ?_ fun hn e => hb3 (e ▸ hshow hn)
        · rintro rfl
          rcases hb2 with hb2 | hb2
          · omega
          · exact hb2 hKl
        · intro hn
          rcases hb2 with hb2 | hb2
          · exact hnf b hn hb2
          · obtain ⟨nm, hnm, e⟩ := hn
            exact hb2 (e ▸ hrk.kn nm hnm)
      · obtain ⟨z1, z2, z3⟩ := hslv ty cells n' sz' g' cap' e1 e2
        subst e1
        have hb := hRc.mem YN ⟨ty, cells⟩ hshn.1
        rw [q4 z2, z1] at hb
        obtain ⟨vs, ex, y1, y2, y3, y4⟩ := hb
        refine ⟨vs, ex, (World.putObj_heap_other ?_).trans y1, y2, y3, repL_flat cells vs z3 y4⟩
        intro e
        have e : g' = w.heap.size + 1 := e
        rw [e] at y1
        rw [hl3] at y1; cases y1
      · obtain ⟨nm, hnm, e⟩ := hb
        rcases q2 nm hnm with h5 | h5
        · exact e ▸ hnf _ h5
        · intro h6
          have := hKlt _ hKD
          omega
      · refine (q3 w.heap.size (hKlt _ hKD) (by omega) ?_ ?_).trans hD
        · rintro ⟨nm, hnm, e⟩
          obtain ⟨blk, hblk⟩ := Option.ne_none_iff_exists'.1 hnm
          obtain ⟨vs, ex, hh, _⟩ := hrk.mem nm blk hblk
          rw [e, hD] at hh; cases hh
        · intro hn e; exact hYd hn _ (e ▸ hD)
    cases e with
    | normal =>
      obtain ⟨h1, h2, h2g, K', p1, p2, p3, p4, p5, p6, p7, p8, p9, p10, p11⟩ := fin none
      obtain ⟨y, hIy, hle⟩ := hpost
      refine ⟨_, _, h1, h2, h2g, K', p1, p2, p3, p4, p5, .inl ⟨rfl, y, φ3, hIy, p6.weaken hle, fun b ⟨nm, hnm, e⟩ => p7 b ⟨nm, ?_, e⟩, p8, p9, p10, p11⟩⟩
      cases hb : (st (k + 1) y).mem nm with
      | none => exact absurd hb hnm
      | some blk => rw [hle.mem nm blk hb]; simp
    | ret =>
      obtain ⟨h1, h2, h2g, K', p1, p2, p3, p4, p5, p6, p7, p8, p9, p10, p11⟩ := fin (some .ret)
      exact ⟨_, _, h1, h2, h2g, K', p1, p2, p3, p4, p5, .inr ⟨rfl, .ret, uns t, φ3, p6, p8, p9, p10, p11, .inl ⟨rfl, hpost⟩⟩⟩
    | exit id =>
      obtain ⟨h1, h2, h2g, K', p1, p2, p3, p4, p5, p6, p7, p8, p9, p10, p11⟩ := fin (some (.exit id))
      exact ⟨_, _, h1, h2, h2g, K', p1, p2, p3, p4, p5, .inr ⟨rfl, .exit id, uns t, φ3, p6, p8, p9, p10, p11, .inr (.inl ⟨id, rfl, hpost⟩)⟩⟩
    | goto l' =>
      obtain ⟨h1, h2, h2g, K', p1, p2, p3, p4, p5, p6, p7, p8, p9, p10, p11⟩ := fin (some (.goto l'))
      exact ⟨_, _, h1, h2, h2g, K', p1, p2, p3, p4, p5, .inr ⟨rfl, .goto l', uns t, φ3, p6, p8, p9, p10, p11, .inr (.inr ⟨l', rfl, hpost⟩)⟩⟩
    | panic ch => exact hpost.elim
    | outgrown => exact hpost.elim
  · -- the names at the entry
    rintro b ⟨nm, hnm, e⟩ ⟨hb, hlt⟩
    have hn2 : s.mem nm ≠ none := by
      cases hb2 : (st 0 x0).mem nm with
      | none => exact absurd hb2 hnm
      | some blk => rw [h0.mem nm blk hb2]; simp
    rcases hb with hb | hb
    · obtain ⟨blk, hblk⟩ := Option.ne_none_iff_exists'.1 hn2
      rcases hR.own nm blk hblk with h5 | h5
      · have h6 : w0.heap.size ≤ (φ nm).1 := h5
        have h7 : b < w0.heap.size := hb.1
        omega
      · exact h5
    · exact hb.2 nm hn2 e⟩

end Go.Proofs.YtfcfmpdpjmbcnaaGreat

/- Ranges over functions: the iterator's side. Nothing of the program. -/
namespace Go.Proofs.YtfcfmpdpjmbcnaaGreat
open Go.RowKit

/-- What is known behind k rounds (2 k), and when the k-th round was the last one (2 k + 1). -/
def J2 (J Jx : Ghost) : Ghost := fun m K W => (m % 2 = 0 ∧ J (m / 2) K W) ∨ (m % 2 = 1 ∧ Jx (m / 2) K W)
theorem Stable.J2 {J Jx : Ghost} (h : Stable J) (h2 : Stable Jx) : Stable (Go.Proofs.YtfcfmpdpjmbcnaaGreat.J2 J Jx) := fun k K w w' hj hs hb => hj.imp (fun ⟨a, b⟩ => ⟨a, h _ _ _ _ b hs hb⟩) (fun ⟨a, b⟩ => ⟨a, h2 _ _ _ _ b hs hb⟩)
theorem J2.even {J Jx : Ghost} {k : Nat} {K : Nat → Prop} {W : World} : J2 J Jx (2 * k) K W ↔ J k K W := by
  have h1 : 2 * k % 2 = 0 := by omega
  have h2 : 2 * k / 2 = k := by omega
  unfold J2
  rw [h1, h2]
  simp
theorem J2.odd {J Jx : Ghost} {k : Nat} {K : Nat → Prop} {W : World} : J2 J Jx (2 * k + 1) K W ↔ Jx k K W := by
  have h1 : (2 * k + 1) % 2 = 1 := by omega
  have h2 : (2 * k + 1) / 2 = k := by omega
  unfold J2
  rw [h1, h2]
  simp
/-- The count of the rounds, as the frame bears it. -/
def cntV (k : Nat) : AV := .d (.val (.int .i64 ((2 * k : Nat) : Int)))
def stpV (k : Nat) : AV := .d (.val (.int .i64 ((2 * k + 1 : Nat) : Int)))

def itJ (J : Ghost) (fz0 : Nat → Prop) (w1 : World) (ok1 ex1 : Nat → Prop) (k : Nat) (K : Nat → Prop) (W : World) : Prop := J k K W ∧ ∀ b, K b → b < w1.heap.size ∧ ¬ ex1 b ∧ (ok1 b → fz0 b)
/-- An iterator's context, between two rounds. -/
@[reducible] def itc (J : Ghost) (sJ : Stable J) (fz0 : Nat → Prop) (nt : Nat) (w1 : World) (ok1 ex1 : Nat → Prop) : Ctx :=
  ⟨w1, ok1, nt, none, true, ex1, fun _ => undef, itJ J fz0 w1 ok1 ex1, fun k K w w' h h1 h2 h3 h4 h5 => ⟨sJ k K w w' h.1 ⟨h1, h2, h3, h4⟩ h5, h.2⟩⟩
@[reducible] def itF (w0 : World) (J : Ghost) (sJ : Stable J) (fz0 : Nat → Prop) (nt : Nat) : Fam := ⟨fun c => ∃ w1 ok1 ex1, c = itc J sJ fz0 nt w1 ok1 ex1 ∧ SameW w0 w1, nt, none, by rintro c ⟨_, _, _, rfl, _⟩; exact ⟨rfl, rfl⟩⟩

theorem rebase {J : Ghost} {sJ : Stable J} {fz0 : Nat → Prop} {nt : Nat} {w1 W W' : World} {ok1 ex1 : Nat → Prop} {t : AS} {φ : Nat → Nat × Nat} {a : Act} (h : R (itc J sJ fz0 nt w1 ok1 ex1) t φ a W) {K K' : Nat → Prop}
    (hK1 : ∀ b, K b → b < w1.heap.size ∧ ¬ ex1 b ∧ (ok1 b → fz0 b)) (hK2 : ∀ nm, t.mem nm ≠ none → ¬ K (φ nm).1) (hs : SameW W W') (hG : Glob W → Glob W') (hKK : ∀ b, K' b → K b ∨ W.heap.size ≤ b) (hKlt : ∀ b, K' b → b < W'.heap.size)
    (hkeep : ∀ b, b < W.heap.size → (fz0 b ∨ ¬ K b) → (∀ nm, t.mem nm ≠ none → (φ nm).1 ≠ b) → W'.heap[b]? = W.heap[b]?)
    (hmem : ∀ nm blk, t.mem nm = some blk → W'.heap[(φ nm).1]? = W.heap[(φ nm).1]? ∨ BlkAt (fun _ => False) W' (φ nm) blk) {m : Nat} (hJ : J m K' W') :
    ∃ ok2 ex2, R (itc J sJ fz0 nt W' ok2 ex2) ⟨upd t.fr VG (.d (.val (.int .i64 (m : Int)))), t.mem⟩ φ a W' := by
  have hun : ∀ b, okOf (itc J sJ fz0 nt w1 ok1 ex1) φ t b → ∀ nm, t.mem nm ≠ none → (φ nm).1 ≠ b := fun b hb nm hn e => by
    rcases hb with ⟨h1, _, h3⟩ | ⟨_, h2⟩
    · obtain ⟨blk, hblk⟩ := Option.ne_none_iff_exists'.1 hn
      rcases h.own nm blk hblk with h4 | h4
      · rw [e] at h4; exact absurd h1 (Nat.not_lt.2 h4)
      · rw [e] at h4; exact h3 h4
    · exact h2 nm hn e
  have hfz : ∀ b, okOf (itc J sJ fz0 nt w1 ok1 ex1) φ t b → fz0 b ∨ ¬ K b := fun b hb => by
    by_cases hk : K b
    · obtain ⟨k1, k2, k3⟩ := hK1 b hk
      rcases hb with ⟨_, h2, _⟩ | ⟨h1 | h1, _⟩
      · exact .inl (k3 h2)
      · exact absurd k1 (Nat.not_lt.2 h1)
      · exact absurd h1 k2
    · exact .inr hk
  have hd0 : a.defers = [] := by
    obtain ⟨Ds, h1, _, h3⟩ := h.defers
    cases Ds with
    | nil => exact h1
    | cons D Ds => have := (h3 D (by simp)).1.1; cases this
  obtain ⟨c2, hc2⟩ : ∃ c2, c2 = itc J sJ fz0 nt W' (fun b => okOf (itc J sJ fz0 nt w1 ok1 ex1) φ t b ∧ b < W.heap.size) (named t φ) := ⟨_, rfl⟩
  have hk : Keeps (okOf (itc J sJ fz0 nt w1 ok1 ex1) φ t) W (okOf c2 φ ⟨upd t.fr VG (.d (.val (.int .i64 (m : Int)))), t.mem⟩) W' := by
    refine ⟨fun b hb hlt => ?_, hs.size, fun b o u hok hlt hc => (World.cell?_of_block (a := ⟨b, o, none⟩) (hkeep b hlt (hfz b hok) (hun b hok))).trans hc⟩
    rw [hc2]
    exact .inl ⟨Nat.lt_of_lt_of_le hlt hs.size, ⟨hb, hlt⟩, fun ⟨nm, hn, e⟩ => hun b hb nm hn e⟩
  refine ⟨fun b => okOf (itc J sJ fz0 nt w1 ok1 ex1) φ t b ∧ b < W.heap.size, named t φ, ?_⟩
  rw [← hc2]
  have e1 : c2.w0 = W' := by rw [hc2]
  have e2 : c2.ex = named t φ := by rw [hc2]
  have e3 : c2.nt = nt := by rw [hc2]
  have e4 : c2.gv = fun _ => undef := by rw [hc2]
  have hG1 : Glob W' := hG h.below.glob
  have hG2 : ∀ b, GBlk b → ¬ named t φ b := fun b hb ⟨nm, hn, e⟩ => by
    obtain ⟨blk, hblk⟩ := Option.ne_none_iff_exists'.1 hn
    rcases h.own nm blk hblk with h4 | h4
    · rw [e] at h4; exact absurd (h.below.gl.1.lt hb) (Nat.not_lt.2 h4)
    · rw [e] at h4; exact h.below.gl.2 b hb h4
  refine ⟨by rw [e1, e2]; exact BelowX.refl hG1 hG2, ⟨[], hd0, List.nodup_nil, fun D hD => by cases hD⟩, by rw [e3]; exact h.size, by rw [e3]; exact h.ntv, fun i hi => ?_, fun nm blk hn => .inr (by rw [e2]; exact ⟨nm, by rw [show t.mem nm = some blk from hn]; simp, rfl⟩), fun nm blk hn => ?_, h.inj, fun k hk => ?_⟩
  · show (upd t.fr VG _ i).rep _ φ W' _
    rw [upd_ne _ _ hi]
    have h1 := AV.rep_keeps hk (h.fr i hi)
    have h2 : slotAt c2 a φ i = slotAt (itc J sJ fz0 nt w1 ok1 ex1) a φ i := by unfold slotAt; rw [e4]
    rw [h2]; exact h1
  · rcases hmem nm blk hn with h1 | h1
    · exact (h.mem nm blk hn).keeps hk h1
    · exact h1.keeps (Keeps.wide fun b hb _ => hb.elim) rfl
  · have hk : upd t.fr VG (.d (.val (.int .i64 (m : Int)))) VG = .d (.val (.int .i64 (k : Int))) := hk
    rw [upd_same] at hk
    have hkm : k = m := by
      injection hk with hk; injection hk with hk; injection hk with _ hk
      omega
    subst hkm
    have hnK : ∀ b, named t φ b → ¬ K' b := fun b ⟨nm, hn, e⟩ hb => by
      rcases hKK b hb with h1 | h1
      · exact hK2 nm hn (e ▸ h1)
      · have := h.lt hn; omega
    refine ⟨K', ?_, fun nm hn hb => hnK _ ⟨nm, hn, rfl⟩ hb, hKlt, fun D hD => by rw [hd0] at hD; cases hD⟩
    rw [hc2]
    refine ⟨hJ, fun b hb => ⟨hKlt b hb, fun hn => hnK b hn hb, fun hok => ?_⟩⟩
    rcases hKK b hb with h1 | h1
    · exact (hfz b hok.1).resolve_right fun h2 => h2 h1
    · exact absurd hok.2 (Nat.not_lt.2 h1)

/-- What an iterator's walk may do with its yield. -/
structure Itr (P : Program) (c : Fam) (l : Nat) (xs : List YA) (fin : Bool) : Prop where
  run : ∃ w0 J Jx sJ fz0 nt, c = itF w0 (J2 J Jx) sJ fz0 nt ∧ (fin = false → ∀ K W, ¬ J xs.length K W) ∧
    (∀ k K W d args (okA : Nat → Prop), xs[k]? = some d → J k K W → (∀ b, K b → b < W.heap.size) → d.rep K okA W args → (∀ b, okA b → b < W.heap.size ∧ (fz0 b ∨ ¬ K b)) →
      YieldAt Fence.wide 0 P l args.toArray W fun e W' => SameW W W' ∧ (Glob W → Glob W') ∧ ∃ K', (∀ b, K b → K' b) ∧ (∀ b, K' b → K b ∨ okA b ∨ W.heap.size ≤ b) ∧ (∀ b, K' b → b < W'.heap.size) ∧ (∀ b, b < W.heap.size → (fz0 b ∨ ¬ K b) → ¬ d.shows args b → W'.heap[b]? = W.heap[b]?) ∧
        (∀ ty cells n sz g cap, d = .sl ty cells n sz → args = [.slice (some ⟨g, 0, none⟩) n cap] → BlkAt (fun _ => False) W' (g, cap * sz) ⟨ty, cells⟩) ∧
        ((e = .returned (.bool true) ∧ J (k + 1) K' W') ∨ (e = .returned (.bool false) ∧ Jx (k + 1) K' W')))

/-- Behind the last value of an iterator without an end nothing is reached. -/
theorem awp_over {P : Program} {c : Fam} {l : Nat} {xs : List YA} {code : Code} {Q : Exit → AS → Prop} {s : AS} (hI : Itr P c l xs false) (hk : s.fr VG = cntV xs.length) : AWp P c code Q s := ⟨fun φ a w ⟨c', hG, hR⟩ => by
  obtain ⟨w0, J, Jx, sJ, fz0, nt, rfl, h1, _⟩ := hI.run
  obtain ⟨w1, ok1, ex1, rfl, _⟩ := hG
  obtain ⟨K, h2, _⟩ := hR.gh _ hk
  exact absurd (J2.even.1 h2.1) (h1 rfl K w)⟩

/-- The arguments of a call of yield. -/
inductive YV (t : AS) (args : List Operand) : YA → Prop
  | gv {ds} (h : viewD t args = some ds) (hf : DV.flatL ds = true) : YV t args (.gv ds)
  | sl {x nm n sz ty cells} (ha : args = [x]) (h : t.ev x = .lsl nm 0 n sz) (hm : t.mem nm = some ⟨ty, cells⟩) (hf : DV.flatL cells = true) : YV t args (.sl ty cells n sz)

section
variable {P : Program} {ops : Array Oper} {Q : Exit → Act → World → Prop} {c : Ctx}
theorem runT_on : ∀ (l : List Oper) (is is' : List Nat) (s : AS) (K : List Rec → AS → Prop), (∀ k, k < l.length → is[k]?.bind (ops[·]?) = l[k]?) → is.length = l.length → (∀ o ∈ l, opOk c o) →
    RunT P ops l s K → ∀ (φ : Nat → Nat × Nat) (a : Act) (w : World), R c s φ a w → (∀ rs t φ' a' w', K rs t → R c t φ' a' w' → wpOpsIn (fz c.rd) 0 P ops Q is' a' w') → wpOpsIn (fz c.rd) 0 P ops Q (is ++ is') a w := by
  intro l
  induction l with
  | nil =>
    intro is is' s K hl hlen hd hrun φ a w hR hQ
    have : is = [] := List.eq_nil_of_length_eq_zero hlen
    subst this
    exact hQ [] s φ a w hrun hR
  | cons o l ih =>
    intro is is' s K hl hlen hd hrun φ a w hR hQ
    cases is with
    | nil => simp at hlen
    | cons i is =>
      have hi : ops[i]? = some o := by simpa using hl 0 (by simp)
      rw [List.cons_append, wpOpsIn_cons]
      obtain ⟨e, rd, hs, hr⟩ := hrun
      refine hs.wpOp hi hR (fun x _ => ge_refl _) (fun t b _ => ge_refl _) (fun n _ => rfl) (Lk.refl _) (hd o (by simp)) fun φ' a' w' hR' => ?_
      exact ih is is' _ _ (fun k hk => by simpa using hl (k + 1) (by simp; omega)) (by simpa using hlen) (fun o ho => hd o (by simp [ho])) hr φ' a' w' hR' fun rs t φ' a' w' hk h => hQ (⟨e, rd, tchOf o s⟩ :: rs) t φ' a' w' hk h
end

theorem run_callYield {P : Program} {l : Nat} {dst : Option Tmp} {y : Operand} {args : Array Operand} {ats : Array TypeId} {ty : TypeId} {ps : String} {af : Array Edge} {gd : Option (Nat × Bool)} {a : Act} {w : World} (hy : a.eval y = .func (.yield l) #[] #[]) :
    (execOp a.eval ⟨dst, .call ⟨.value y, args, ats⟩, ty, ps, af, gd⟩).run P w = (Instr.yield l (args.map a.eval)).run P w := by
  simp [execOp, resolve, Deferred.ofValue, hy, invoke]

theorem yv_rep {c : Ctx} {t : AS} {φ : Nat → Nat × Nat} {a : Act} {W : World} {args : List Operand} {d : YA} {K : Nat → Prop} (h : YV t args d) (hR : R c t φ a W) (hK : ∀ nm, t.mem nm ≠ none → ¬ K (φ nm).1) : d.rep K (fun _ => False) W (args.map a.eval) := by
  cases h with
  | gv h hf => exact repL_flat _ _ hf (viewD_rep hR args _ (fun _ _ => ge_refl _) h)
  | @sl x nm n sz ty cells ha h hm hf =>
    subst ha
    have h1 := hR.ev x
    rw [h] at h1
    obtain ⟨cap, h2, h3, h4, h5⟩ := h1
    obtain ⟨vs, ex, b1, b2, b3, b4⟩ := hR.mem nm _ hm
    refine ⟨(φ nm).1, cap, by rw [← h2]; rfl, h3, h4, hK nm (by rw [hm]; simp), fun h => h, hf, vs, ex, b1, ?_, b3, repL_flat cells vs hf b4⟩
    show _ = cap * sz
    omega
/-- The shown block is a named one. -/
theorem yv_shows {c : Ctx} {t : AS} {φ : Nat → Nat × Nat} {a : Act} {W : World} {args : List Operand} {d : YA} (h : YV t args d) (hR : R c t φ a W) {b : Nat} (hs : d.shows (args.map a.eval) b) :
    ∃ nm n sz cap ty cells, d = .sl ty cells n sz ∧ t.mem nm = some ⟨ty, cells⟩ ∧ (φ nm).1 = b ∧ (φ nm).2 = cap * sz ∧ args.map a.eval = [.slice (some ⟨(φ nm).1, 0, none⟩) n cap] := by
  cases h with
  | gv h hf => exact hs.elim
  | @sl x nm n sz ty cells ha h hm hf =>
    subst ha
    obtain ⟨cap', hs⟩ := hs
    have h1 := hR.ev x
    rw [h] at h1
    obtain ⟨cap, h2, h3, h4, h5⟩ := h1
    have h2 : a.eval x = .slice (some ⟨(φ nm).1, 0, none⟩) n cap := h2
    have hs : [a.eval x] = [.slice (some ⟨b, 0, none⟩) n cap'] := hs
    rw [h2] at hs
    injection hs with hs _
    obtain ⟨e1, e2⟩ := sl_inj hs
    refine ⟨nm, n, sz, cap, ty, cells, rfl, hm, e1, by omega, ?_⟩
    show [a.eval x] = _
    rw [h2]

/-- A call of yield: the round's end is told. -/
theorem awp_yield {P : Program} {c : Fam} {lN : Nat} {xs : List YA} {fin : Bool} {Q : Exit → AS → Prop} {s : AS} (hI : Itr P c lN xs fin) {id : Nat} {l pre post : List Oper} {dst : Tmp} {y : Operand} {args : Array Operand} {ats : Array TypeId} {ty : TypeId} {ps : String} {af : Array Edge}
    (hl : l = pre ++ ⟨some dst, .call ⟨.value y, args, ats⟩, ty, ps, af, none⟩ :: post) (hd : dstsB c.nt l = true) (k : Nat) (d : YA) (hx : xs[k]? = some d)
    (h : RunT P l.toArray pre s fun _ t => t.ev y = .d (.val (.func (.yield lN) #[] #[])) ∧ YV t args.toList d ∧ t.fr VG = cntV k ∧
      RunT P l.toArray post ⟨upd (upd t.fr VG (cntV (k + 1))) dst (.d (.val (.bool true))), t.mem⟩ (fun _ u => Q .normal u) ∧
      RunT P l.toArray post ⟨upd (upd t.fr VG (stpV (k + 1))) dst (.d (.val (.bool false))), t.mem⟩ (fun _ u => Q .normal u)) : AWp P c (.region id l.toArray false) Q s := ⟨fun φ a w ⟨c', hG, hR⟩ => by
  obtain ⟨w0, J, Jx, sJ, fz0, nt, rfl, _, hY⟩ := hI.run
  obtain ⟨w1, ok1, ex1, rfl, hsw⟩ := hG
  have hds : ∀ o ∈ l, opOk (itc (J2 J Jx) sJ fz0 nt w1 ok1 ex1) o := dstsB_spec l hd
  have hget : ∀ i : Nat, l.toArray[i]? = l[i]? := fun i => List.getElem?_toArray
  have hr : List.range l.toArray.size = List.range pre.length ++ pre.length :: (List.range' (pre.length + 1) post.length) := by
    rw [hl]
    simp only [List.size_toArray, List.length_append, List.length_cons, List.range_eq_range']
    rw [show pre.length + (post.length + 1) = pre.length + (1 + post.length) by omega, ← List.range'_append_1, ← List.range'_append_1]
    simp
  refine wpIn_region ?_
  rw [hr]
  refine runT_on (c := itc (J2 J Jx) sJ fz0 nt w1 ok1 ex1) pre (List.range pre.length) _ s _ (fun k hk => ?_) (by simp) (fun o ho => hds o (by rw [hl]; simp [ho])) h φ a w hR ?_
  · rw [List.getElem?_range hk, Option.bind_some]
    exact (hget k).trans (by rw [hl]; exact List.getElem?_append_left hk)
  rintro rs t φ' a' w' ⟨h1, h2, h3, h4, h5⟩ hR'
  have hi : l.toArray[pre.length]? = some ⟨some dst, .call ⟨.value y, args, ats⟩, ty, ps, af, none⟩ := (hget _).trans (by rw [hl]; exact (List.getElem?_append_right (Nat.le_refl _)).trans (by rw [Nat.sub_self]; rfl))
  have hpo : ∀ k, k < post.length → (List.range' (pre.length + 1) post.length)[k]?.bind (l.toArray[·]?) = post[k]? := fun k hk => by
    rw [List.getElem?_range' (by omega), Option.bind_some]
    refine (hget _).trans ?_
    rw [hl]
    refine (List.getElem?_append_right (by omega)).trans ?_
    rw [show pre.length + 1 + 1 * k - pre.length = k + 1 by omega]
    rfl
  have hdst : dst < nt := (hds ⟨some dst, .call ⟨.value y, args, ats⟩, ty, ps, af, none⟩ (by rw [hl]; simp)).1 dst rfl
  rw [wpOpsIn_cons]
  unfold Go.wpOpIn
  simp only [hi]
  rw [if_pos (by simp [Region.wanted])]
  refine ⟨fun _ _ => trivial, ?_⟩
  have hy : a'.eval y = .func (.yield lN) #[] #[] := by
    have := hR'.ev y
    rw [h1] at this
    exact (rep_val (ok := okOf (itc (J2 J Jx) sJ fz0 nt w1 ok1 ex1) φ' t) (w := w')).1 this
  obtain ⟨K, ⟨hJ, hK1⟩, hK2, hK3, hK4⟩ := hR'.gh _ h3
  have hrep := yv_rep h2 hR' hK2
  obtain ⟨fn, tmps, asg, bd, hrun, hround⟩ := hY k K w' d (args.toList.map a'.eval) (fun _ => False) hx (J2.even.1 hJ) hK3 hrep (fun _ h => h.elim)
  have hargs : (args.toList.map a'.eval).toArray = args.map a'.eval := by apply Array.ext'; simp
  rw [hargs] at hrun
  rw [Oper.semAt_eq _ _ _ (fun c h => by cases h), run_callYield hy, hrun, Oper.uponIn_round]
  refine ⟨fun h => by simp [fz, Fence.wide] at h, ?_⟩
  refine RoundIn.mono hround ?_
  rintro e W' ⟨hs, hgl, K', k1, k2, k3, k4, k5, hc⟩
  have hkeep : ∀ b, b < w'.heap.size → (fz0 b ∨ ¬ K b) → (∀ nm, t.mem nm ≠ none → (φ' nm).1 ≠ b) → W'.heap[b]? = w'.heap[b]? := fun b hb hc hnn => k4 b hb hc fun hsh => by
    obtain ⟨nm, n, sz, cap, ty, cells, _, hm, e, _⟩ := yv_shows h2 hR' hsh
    exact hnn nm (by rw [hm]; simp) e
  have hmem : ∀ nm blk, t.mem nm = some blk → W'.heap[(φ' nm).1]? = w'.heap[(φ' nm).1]? ∨ BlkAt (fun _ => False) W' (φ' nm) blk := fun nm blk hn => by
    by_cases hsh : d.shows (args.toList.map a'.eval) (φ' nm).1
    · obtain ⟨nm2, n, sz, cap, ty, cells, hd2, hm, e, e2, hag⟩ := yv_shows h2 hR' hsh
      by_cases en : nm2 = nm
      · subst en
        rw [hm] at hn; cases hn
        refine .inr ?_
        have := k5 ty cells n sz _ cap hd2 hag
        rw [← e2] at this
        exact this
      · exact absurd e (hR'.inj nm2 nm (by rw [hm]; simp) (by rw [hn]; simp) en)
    · exact .inl (k4 _ (hR'.lt (by rw [hn]; simp)) (.inr (hK2 nm (by rw [hn]; simp))) hsh)
  have hKK : ∀ b, K' b → K b ∨ w'.heap.size ≤ b := fun b hb => (k2 b hb).imp (fun h => h) fun h => h.resolve_left fun h => h
  have hsw' : SameW w0 W' := (hsw.trans hR'.below.same).trans hs
  have fin : ∀ (m : Nat) (b : Bool), J2 J Jx m K' W' → RunT P l.toArray post ⟨upd (upd t.fr VG (.d (.val (.int .i64 (m : Int))))) dst (.d (.val (.bool b))), t.mem⟩ (fun _ u => Q .normal u) →
      wpOpsIn (fz none) 0 P l.toArray (fun e a w => ∃ t φ, Q e t ∧ RF (itF w0 (J2 J Jx) sJ fz0 nt) t φ a w) (List.range' (pre.length + 1) post.length) (a'.put (some dst) (.bool b)) W' := fun m b hj hrn => by
    obtain ⟨ok2, ex2, hR2⟩ := rebase hR' hK1 hK2 hs hgl hKK k3 hkeep hmem hj
    have hR3 := hR2.put (dst := some dst) (r := .d (.val (.bool b))) (v := .bool b) (fun x hx => by cases hx; exact hdst) ((rep_val (ok := okOf (itc (J2 J Jx) sJ fz0 nt W' ok2 ex2) φ' ⟨upd t.fr VG (.d (.val (.int .i64 (m : Int)))), t.mem⟩) (w := W')).2 rfl)
    exact runT_wp (c := itc (J2 J Jx) sJ fz0 nt W' ok2 ex2) post _ _ _ hpo (by simp) (fun o ho => hds o (by rw [hl]; simp [ho])) hrn φ' _ W' hR3 fun rs u φ2 a2 w2 hq hR4 => ⟨u, φ2, hq, _, ⟨W', ok2, ex2, rfl, hsw'⟩, hR4⟩
  rcases hc with ⟨rfl, hj⟩ | ⟨rfl, hj⟩
  · exact fin _ true (J2.even.2 hj) h4
  · exact fin _ false (J2.odd.2 hj) h5⟩

/-- How an iterator may end. -/
def YRet (xs : List YA) (fin : Bool) : Exit → AS → Prop
  | .normal, t | .ret, t => (fin = true ∧ t.fr VG = cntV xs.length) ∨ ∃ k, t.fr VG = stpV k
  | _, _ => False
/-- The state at an iterator's entry. -/
@[reducible] def entryY (bs : List DV) (l : Nat) (caps : List DV) : AS := ⟨upd (entry (bs ++ .val (.func (.yield l) #[] #[]) :: caps)).fr VG (cntV 0), fun _ => none⟩

theorem ay_body {P : Program} {gf : FuncId} {fn : Func} {code : Code} {bs caps : List DV} {xs : List YA} {fin : Bool} (hf : P.funcs[gf]? = some fn) (hb : fn.body = some code) (hres : fn.results = #[])
    (hn : (Nat.ble (bs ++ DV.any :: caps).length fn.ntmps && Nat.ble fn.ntmps VG) = true) (h : ∀ w0 J sJ fz0 l, Itr P (itF w0 J sJ fz0 fn.ntmps) l xs fin → AWp P (itF w0 J sJ fz0 fn.ntmps) code (YRet xs fin) (entryY bs l caps)) : AY P gf bs caps xs fin := by
  intro fz0 w vs us l J Jx hbs hcaps hnv hfz sJ sJx hY K0 hJ0 hK0 hgi
  have hr : DV.repL fz0 w (bs ++ .val (.func (.yield l) #[] #[]) :: caps) (vs ++ .func (.yield l) #[] #[] :: us) := repL_append hbs (repL_cons'.2 ⟨rep_val.2 rfl, hcaps⟩)
  have hnn : (Nat.ble (bs ++ DV.val (.func (.yield l) #[] #[]) :: caps).length fn.ntmps && Nat.ble fn.ntmps VG) = true := by
    rw [← hn]; simp
  refine callsIn_wide.1 (callsIn_of_wp_marks (F := Fence.wide) (n := 0) hf hb trivial ?_)
  have hR0 : R (itc (J2 J Jx) (sJ.J2 sJx) fz0 fn.ntmps w fz0 (fun _ => False)) (entry (bs ++ .val (.func (.yield l) #[] #[]) :: caps)) (fun _ => (0, 0)) { tmps := (vs ++ .func (.yield l) #[] #[] :: us).toArray ++ Array.replicate (fn.ntmps - (vs ++ .func (.yield l) #[] #[] :: us).toArray.size) undef, defers := [] } w :=
    entry_R rfl hnn (fun _ _ _ h => h) hr (fun _ => rfl) hgi.is (fun _ _ h => h)
  have hR : R (itc (J2 J Jx) (sJ.J2 sJx) fz0 fn.ntmps w fz0 (fun _ => False)) (entryY bs l caps) (fun _ => (0, 0)) { tmps := (vs ++ .func (.yield l) #[] #[] :: us).toArray ++ Array.replicate (fn.ntmps - (vs ++ .func (.yield l) #[] #[] :: us).toArray.size) undef, defers := [] } w := by
    refine ⟨hR0.below, hR0.defers, hR0.size, hR0.ntv, fun i hi => ?_, hR0.own, hR0.mem, hR0.inj, fun k hk => ?_⟩
    · show AV.rep _ _ w (upd (entry (bs ++ .val (.func (.yield l) #[] #[]) :: caps)).fr VG (cntV 0) i) _
      rw [upd_ne _ _ hi]
      exact hR0.fr i hi
    · have hk : upd (entry (bs ++ .val (.func (.yield l) #[] #[]) :: caps)).fr VG (cntV 0) VG = .d (.val (.int .i64 (k : Int))) := hk
      rw [upd_same] at hk
      have hk0 : k = 2 * 0 := by
        unfold cntV at hk
        injection hk with hk; injection hk with hk; injection hk with _ hk
        omega
      subst hk0
      exact ⟨K0, ⟨J2.even.2 hJ0, fun b hb => ⟨(hK0 b).1 hb, fun h => h, fun h => h⟩⟩, fun nm hn => absurd rfl hn, fun b hb => (hK0 b).1 hb, fun D hD => by cases hD⟩
  have hitr : Itr P (itF w (J2 J Jx) (sJ.J2 sJx) fz0 fn.ntmps) l xs fin := ⟨w, J, Jx, sJ.J2 sJx, fz0, fn.ntmps, rfl, hnv, hY⟩
  refine wpIn_mono ((h _ _ _ _ l hitr).run _ _ _ ⟨_, ⟨w, fz0, fun _ => False, rfl, SameW.refl w⟩, hR⟩) ?_
  rintro e a w' ⟨t, φ, hq, c', ⟨w1, ok1, ex1, rfl, hsw⟩, hR'⟩
  have fin' : ((fin = true ∧ t.fr VG = cntV xs.length) ∨ ∃ k, t.fr VG = stpV k) → LeavesInM Fence.wide 0 P fn a.tmps (fun e w' => (∃ v, e = .returned v) ∧ SameW w w' ∧ ∃ K', (∀ b, K' b → b < w'.heap.size) ∧ (J xs.length K' w' ∨ ∃ k, Jx k K' w')) a.defers .returning w' := by
    intro hq
    refine hR'.leaves fun w2 hR2 => ?_
    refine ⟨.tuple #[], ?_, ⟨_, rfl⟩, hsw.trans hR2.below.same, ?_⟩
    · unfold results
      rw [hres]
      simp
    · rcases hq with ⟨_, hq⟩ | ⟨k, hq⟩
      · obtain ⟨K, h1, _, h3, _⟩ := hR2.gh _ hq
        exact ⟨K, h3, .inl (J2.even.1 h1.1)⟩
      · obtain ⟨K, h1, _, h3, _⟩ := hR2.gh _ hq
        exact ⟨K, h3, .inr ⟨k, J2.odd.1 h1.1⟩⟩
  cases e with
  | normal => exact fin' hq
  | ret => exact fin' hq
  | exit id => exact hq.elim
  | goto l => exact hq.elim
  | panic ch => exact hq.elim
  | outgrown => exact hq.elim

/-- A loop, unrolled: the body runs, then the loop again. -/
structure AWpL (P : Program) (c : Fam) (body : Code) (Q : Exit → AS → Prop) (s : AS) : Prop where
  run : ∀ φ a w, RF c s φ a w → ∀ (b : Frame) (k : List Item) (cs : List Frame), b.roundOf = (fz c.rd).round → (fz c.rd).fn b.fn → (fz c.rd).room (cs.length + 1 + 0) → ∃ e a' w', (∃ t φ, Q e t ∧ RF c t φ a' w') ∧ ArrivesIn (Machine.fenced P (fz c.rd)) P (lone (b.atR a (.code body :: .inLoop body :: k)) cs w) b k cs e a' w'
theorem awp_loopU {P : Program} {c : Fam} {Q : Exit → AS → Prop} {s : AS} {body : Code} (h : AWpL P c body Q s) : AWp P c (.loop body) Q s := ⟨fun φ a w hR b k cs hro hb hr => by
  obtain ⟨e, a', w', hq, harr⟩ := h.run φ a w hR b k cs hro hb hr
  exact ⟨e, a', w', hq, .of_steps (.one (fenced_calm hb hr rfl) stepR_loop) harr⟩⟩
theorem awpL_step {P : Program} {c : Fam} {Q : Exit → AS → Prop} {s : AS} {body : Code} (h : AWp P c body (ASeq (AWpL P c body Q) Q) s) : AWpL P c body Q s := ⟨fun φ a w hR b k cs hro hb hr => by
  obtain ⟨e, a₁, w₁, ⟨t, φ₁, hq, hR₁⟩, harr⟩ := h.run φ a w hR b (.inLoop body :: k) cs hro hb hr
  cases e with
  | normal =>
    obtain ⟨e₂, a₂, w₂, hq₂, harr₂⟩ := AWpL.run hq φ₁ a₁ w₁ hR₁ b k cs hro hb hr
    exact ⟨e₂, a₂, w₂, hq₂, .of_steps (StepsIn.trans harr (.one (fenced_calm hb hr rfl) stepR_inLoop)) harr₂⟩
  | exit id => exact ⟨_, a₁, w₁, ⟨t, φ₁, hq, hR₁⟩, .pass (x := .inLoop body) rfl (fun _ _ => .inl (by simp)) harr⟩
  | goto l => exact ⟨_, a₁, w₁, ⟨t, φ₁, hq, hR₁⟩, .pass (x := .inLoop body) rfl (fun _ _ => .inl (by simp)) harr⟩
  | ret => exact ⟨_, a₁, w₁, ⟨t, φ₁, hq, hR₁⟩, .pass (x := .inLoop body) rfl (fun _ _ => .inl (by simp)) harr⟩
  | panic ch => exact ⟨_, a₁, w₁, ⟨t, φ₁, hq, hR₁⟩, .pass (x := .inLoop body) rfl (fun _ _ => .inl (by simp)) harr⟩
  | outgrown => exact ⟨_, a₁, w₁, ⟨t, φ₁, hq, hR₁⟩, .pass (x := .inLoop body) rfl (fun _ _ => .inl (by simp)) harr⟩⟩
section
variable {P : Program} {s : AS} {ty : TypeId} {ps : String} {af : Array Edge} {dst : Option Tmp} {t t' : TypeId} {x y : Operand}
end

end Go.Proofs.YtfcfmpdpjmbcnaaGreat
