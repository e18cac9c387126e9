/- Ranges over functions: the caller's side. Nothing of the program. -/
import Derived.Test.YtiabcffcbhlbiaaM3
set_option linter.unusedVariables false
set_option linter.unusedSimpArgs false
namespace Go.Proofs.Ytiabcffcbhlbiaa
open Go.RowKit

structure SameW (w w' : World) : Prop where
  os : w'.os = w.os
  tape : w'.tape = w.tape
  output : w'.output = w.output
  size : w.heap.size ≤ w'.heap.size
theorem SameW.refl (w : World) : SameW w w := ⟨rfl, rfl, rfl, Nat.le_refl _⟩
theorem SameW.trans {a b c : World} (h : SameW a b) (k : SameW b c) : SameW a c := ⟨k.os.trans h.os, k.tape.trans h.tape, k.output.trans h.output, Nat.le_trans h.size k.size⟩
theorem SameW.putObj (w : World) (l : Nat) (o : Obj) : SameW w (w.putObj l o) := ⟨rfl, rfl, rfl, by simp [World.putObj]⟩
theorem BelowX.same {ex : Nat → Prop} {w0 w : World} (h : BelowX ex w0 w) : SameW w0 w := ⟨h.os, h.tape, h.output, h.size⟩

/-- What is yielded: values that the body may keep; or a slice of the iterator's own, that the body is shown. -/
inductive YA where
  | gv (ds : List DV)
  | sl (ty : TypeId) (cells : List DV) (n sz : Nat)
/-- The name of the slice that is shown. -/
abbrev YN : Nat := 900000

def YA.rep (K okA : Nat → Prop) (W : World) : YA → List Value → Prop
  | .gv ds, vs => DV.repL okA W ds vs
  | .sl ty cells n sz, vs => ∃ g cap, vs = [.slice (some ⟨g, 0, none⟩) n cap] ∧ n ≤ cap ∧ cap ≤ maxLen ∧ ¬ K g ∧ ¬ okA g ∧ DV.flatL cells = true ∧ BlkAt okA W (g, cap * sz) ⟨ty, cells⟩
/-- The block that is shown. -/
def YA.shows (d : YA) (vs : List Value) (b : Nat) : Prop := match d with
  | .gv _ => False
  | .sl _ _ n _ => ∃ cap, vs = [.slice (some ⟨b, 0, none⟩) n cap]

abbrev Ghost := Nat → (Nat → Prop) → World → Prop
def Stable (J : Ghost) : Prop := ∀ k K w w', J k K w → SameW w w' → (∀ b, K b → w'.heap[b]? = w.heap[b]?) → J k K w'

/-- The function gf, with what it is bound to and what it has captured, yields the values xs, one after the other, till it is told to stop; when fin is false, it goes on behind them. J: what its caller knows behind so many rounds, and of which blocks; Jx: the same when it has told it to stop. -/
def AY (P : Program) (gf : FuncId) (bs caps : List DV) (xs : List YA) (fin : Bool) : Prop :=
  ∀ (fz0 : Nat → Prop) (w : World) (vs us : List Value) (l : Nat) (J Jx : Ghost), DV.repL fz0 w bs vs → DV.repL fz0 w caps us → (fin = false → ∀ K W, ¬ J xs.length K W) → (∀ b, fz0 b → b < w.heap.size) → Stable J → Stable Jx →
    (∀ k K W d args (okA : Nat → Prop), xs[k]? = some d → J k K W → (∀ b, K b → b < W.heap.size) → d.rep K okA W args → (∀ b, okA b → b < W.heap.size ∧ (fz0 b ∨ ¬ K b)) →
      YieldAt Fence.wide 0 P l args.toArray W fun e W' => SameW W W' ∧ ∃ K', (∀ b, K b → K' b) ∧ (∀ b, K' b → K b ∨ okA b ∨ W.heap.size ≤ b) ∧ (∀ b, K' b → b < W'.heap.size) ∧ (∀ b, b < W.heap.size → (fz0 b ∨ ¬ K b) → ¬ d.shows args b → W'.heap[b]? = W.heap[b]?) ∧
        (∀ ty cells n sz g cap, d = .sl ty cells n sz → args = [.slice (some ⟨g, 0, none⟩) n cap] → BlkAt (fun _ => False) W' (g, cap * sz) ⟨ty, cells⟩) ∧
        ((e = .returned (.bool true) ∧ J (k + 1) K' W') ∨ (e = .returned (.bool false) ∧ Jx (k + 1) K' W'))) →
    ∀ K0, J 0 K0 w → (∀ b, K0 b ↔ b < w.heap.size) →
    Calls P gf (vs ++ .func (.yield l) #[] #[] :: us).toArray w fun e w' => (∃ v, e = .returned v) ∧ SameW w w' ∧ ∃ K', (∀ b, K' b → b < w'.heap.size) ∧ (J xs.length K' w' ∨ ∃ k, Jx k K' w')

def kok (c : Ctx) (φ : Nat → Nat × Nat) (t : AS) (K : Nat → Prop) (b : Nat) : Prop := okOf c φ t b ∧ K b
/-- The relation of the frame and of the blocks, of which only the blocks K are spoken. -/
structure RK (c : Ctx) (K : Nat → Prop) (t : AS) (φ : Nat → Nat × Nat) (a : Act) (W : World) : Prop where
  below : Below c.w0.heap.size c.w0 W
  k0 : ∀ b, b < c.w0.heap.size → K b
  defers : Marks c a.defers W
  kd : ∀ D, ({ target := .collected D, args := #[] } : Deferred) ∈ a.defers → K D
  size : a.tmps.size = c.nt
  ntv : c.nt ≤ VG
  fr : ∀ i, i ≠ VG → (t.fr i).rep (kok c φ t K) φ W (slotAt c a φ i)
  own : ∀ nm blk, t.mem nm = some blk → c.w0.heap.size ≤ (φ nm).1
  kn : ∀ nm, t.mem nm ≠ none → K (φ nm).1
  mem : ∀ nm blk, t.mem nm = some blk → BlkAt (kok c φ t K) W (φ nm) blk
  inj : ∀ n m, t.mem n ≠ none → t.mem m ≠ none → n ≠ m → (φ n).1 ≠ (φ m).1

section
variable {w0 : World} {ok : Nat → Prop} {nt : Nat} {K : Nat → Prop} {t : AS} {φ : Nat → Nat × Nat} {a : Act} {W W' : World}

theorem RK.toR (h : RK (kx w0 ok nt) K t φ a W) : R (kx w0 ok nt) t φ a W := by
  have hk : Keeps (kok (kx w0 ok nt) φ t K) W (okOf (kx w0 ok nt) φ t) W := Keeps.wide fun b hb _ => hb.1
  exact ⟨⟨h.below.os, h.below.tape, h.below.output, h.below.size, fun k hk _ => h.below.block k hk⟩, h.defers, h.size, h.ntv, fun i hi => AV.rep_keeps hk (h.fr i hi), fun nm blk hn => .inl (h.own nm blk hn), fun nm blk hn => (h.mem nm blk hn).keeps hk rfl, h.inj, fun k _ => ⟨fun _ => False, trivial, fun _ _ h => h, fun _ h => h.elim, fun _ _ h => h⟩⟩
theorem RK.ofR (h : R (kx w0 ok nt) t φ a W) : RK (kx w0 ok nt) (· < W.heap.size) t φ a W := by
  have hk : Keeps (okOf (kx w0 ok nt) φ t) W (kok (kx w0 ok nt) φ t (· < W.heap.size)) W := Keeps.wide fun b hb hl => ⟨hb, hl⟩
  refine ⟨h.below.all fun _ h => h, fun b hb => Nat.lt_of_lt_of_le hb h.below.size, h.defers, fun D hD => ?_, h.size, h.ntv, fun i hi => AV.rep_keeps hk (h.fr i hi), fun nm blk hn => (h.own nm blk hn).resolve_right fun h => h, fun nm hn => h.lt hn, fun nm blk hn => (h.mem nm blk hn).keeps hk rfl, h.inj⟩
  obtain ⟨Ds, h1, h2, h3⟩ := h.defers
  rw [h1] at hD
  obtain ⟨E, hE, he⟩ := List.mem_map.1 hD
  injection he with he1 _
  injection he1 with he2
  subst he2
  exact (Array.getElem?_eq_some_iff.1 (h3 E hE).2).1
theorem RK.stable {c : Ctx} (h : RK c K t φ a W) (hs : SameW W W') (hb : ∀ b, K b → W'.heap[b]? = W.heap[b]?) : RK c K t φ a W' := by
  have hk : Keeps (kok c φ t K) W (kok c φ t K) W' := ⟨fun _ hb _ => hb, hs.size, fun b o u hok _ hc => (World.cell?_of_block (a := ⟨b, o, none⟩) (hb b hok.2)).trans hc⟩
  refine ⟨⟨hs.os.trans h.below.os, hs.tape.trans h.below.tape, hs.output.trans h.below.output, Nat.le_trans h.below.size hs.size, fun k hk => (hb k (h.k0 k hk)).trans (h.below.block k hk)⟩, h.k0, ?_, h.kd, h.size, h.ntv, fun i hi => AV.rep_keeps hk (h.fr i hi), h.own, h.kn, fun nm blk hn => (h.mem nm blk hn).keeps hk (hb _ (h.kn nm (by rw [hn]; simp))), h.inj⟩
  obtain ⟨Ds, h1, h2, h3⟩ := h.defers
  exact ⟨Ds, h1, h2, fun D hD => ⟨(h3 D hD).1, (hb D (h.kd D (by rw [h1]; exact List.mem_map.2 ⟨D, hD, rfl⟩))).trans (h3 D hD).2⟩⟩
theorem RK.weaken {c : Ctx} {t' : AS} (h : RK c K t φ a W) (hl : t.le t') : RK c K t' φ a W := by
  have hm : ∀ n, t'.mem n ≠ none → t.mem n ≠ none := fun n hn => by
    cases hb : t'.mem n with
    | none => exact absurd hb hn
    | some b => rw [hl.mem n b hb]; simp
  have hk : Keeps (kok c φ t K) W (kok c φ t' K) W := Keeps.wide fun b hb _ => by
    refine ⟨?_, hb.2⟩
    rcases hb.1 with hb | ⟨hb, hb2⟩
    · exact .inl hb
    · exact .inr ⟨hb, fun n hn => hb2 n (hm n hn)⟩
  refine ⟨h.below, h.k0, h.defers, h.kd, h.size, h.ntv, fun i hi => ?_, fun n b hb => h.own n b (hl.mem n b hb), fun n hn => h.kn n (hm n hn), fun n b hb => (h.mem n b (hl.mem n b hb)).keeps hk rfl, fun x y hx hy => h.inj x y (hm x hx) (hm y hy)⟩
  rcases hl.fr i with e | e
  · rw [e]; simp only [AV.rep, DV.rep]
  · rw [e]; exact AV.rep_keeps hk (h.fr i hi)
end

theorem blt_irr (n : Nat) : Nat.blt n n = false := by
  cases h : Nat.blt n n
  · rfl
  · have := Nat.le_of_ble_eq_true h; omega
theorem sl_inj {a b n n' c c' : Nat} (h : Value.slice (some ⟨a, 0, none⟩) n c = .slice (some ⟨b, 0, none⟩) n' c') : a = b ∧ c = c' := by
  injection h with h1 h2 h3
  injection h1 with h1
  injection h1 with h1
  exact ⟨h1, h3⟩
theorem ptr_inj {a b : Nat} (h : Value.pointer (some ⟨a, 0, none⟩) = .pointer (some ⟨b, 0, none⟩)) : a = b := by
  injection h with h; injection h with h; injection h
theorem blt_ge {n m : Nat} (h : Nat.blt n m = false) : m ≤ n := by
  rcases Nat.lt_or_ge n m with h1 | h1
  · have := Nat.ble_eq_true_of_le h1
    rw [show Nat.blt n m = Nat.ble (n + 1) m from rfl, this] at h; cases h
  · exact h1
theorem blt_no {n m : Nat} (h : m ≤ n) : Nat.blt n m = false := by
  cases h1 : Nat.blt n m
  · rfl
  · have := Nat.le_of_ble_eq_true h1; omega
theorem ptr_rep {ok : Nat → Prop} {φ : Nat → Nat × Nat} {w : World} {nm off : Nat} : (AV.ptr nm off).rep ok φ w (.pointer (some ⟨(φ nm).1, off, none⟩)) := rfl
theorem any_rep {ok : Nat → Prop} {φ : Nat → Nat × Nat} {w : World} {v : Value} : (AV.d .any).rep ok φ w v := by simp only [AV.rep, DV.rep]
theorem rep_ptr {ok : Nat → Prop} {φ : Nat → Nat × Nat} {w : World} {nm off : Nat} {v : Value} (h : (AV.ptr nm off).rep ok φ w v) : v = .pointer (some ⟨(φ nm).1, off, none⟩) := h
/-! The body's frame: the loop's own, which it bears a second time in virtual slots. -/
/-- What a body keeps of a link: a value. -/
def keepV : AV → AV
  | .d (.val v) => .d (.val v)
  | _ => .d .any
theorem keepV_rep {ok ok' : Nat → Prop} {φ φ' : Nat → Nat × Nat} {w w' : World} {x : AV} {v : Value} (h : x.rep ok φ w v) : (keepV x).rep ok' φ' w' v := by
  cases x with
  | d y =>
    cases y with
    | val u => exact (rep_val (ok := ok') (w := w')).2 ((rep_val (ok := ok) (w := w)).1 h)
    | _ => exact any_rep
  | _ => exact any_rep
theorem slotAt_hi {c : Ctx} {a : Act} {φ : Nat → Nat × Nat} {i : Nat} (h : PN ≤ i) : slotAt c a φ i = encP (φ i) := by
  unfold slotAt
  rw [blt_no (show GH ≤ i from Nat.le_trans (by decide) h), blt_no h]
  rfl
def savG (vg gh yn pn : Nat) (pin : AV) (F : Nat → AV) (i : Nat) : AV := bif Nat.blt i vg then (F i).kill yn else bif Nat.beq i vg then .d .any else bif Nat.blt (i - gh) vg then (F (i - gh)).kill yn else bif Nat.beq (i - gh) vg then pin else bif Nat.ble pn i then keepV (F i) else .d .any
theorem savG_cases (vg gh yn pn : Nat) (pin : AV) (F : Nat → AV) (i : Nat) (hi : i ≠ vg) : (i < vg ∧ savG vg gh yn pn pin F i = (F i).kill yn) ∨ (vg < i ∧ ((i - gh < vg ∧ savG vg gh yn pn pin F i = (F (i - gh)).kill yn) ∨ (i - gh = vg ∧ savG vg gh yn pn pin F i = pin) ∨ (pn ≤ i ∧ savG vg gh yn pn pin F i = keepV (F i)) ∨ savG vg gh yn pn pin F i = .d .any)) := by
  cases hb : Nat.blt i vg
  · have hge : vg ≤ i := blt_ge hb
    have hb2 : Nat.beq i vg = false := by
      cases h1 : Nat.beq i vg
      · rfl
      · exact absurd (Nat.eq_of_beq_eq_true h1) hi
    have key : savG vg gh yn pn pin F i = bif Nat.blt (i - gh) vg then (F (i - gh)).kill yn else bif Nat.beq (i - gh) vg then pin else bif Nat.ble pn i then keepV (F i) else .d .any := by
      simp only [savG, hb, hb2, cond_false]
    refine .inr ⟨Nat.lt_of_le_of_ne hge (Ne.symm hi), ?_⟩
    cases hb3 : Nat.blt (i - gh) vg
    · cases hb4 : Nat.beq (i - gh) vg
      · cases hb5 : Nat.ble pn i
        · exact .inr (.inr (.inr (by rw [key, hb3, hb4, hb5]; rfl)))
        · exact .inr (.inr (.inl ⟨Nat.le_of_ble_eq_true hb5, by rw [key, hb3, hb4, hb5]; rfl⟩))
      · exact .inr (.inl ⟨Nat.eq_of_beq_eq_true hb4, by rw [key, hb3, hb4]; rfl⟩)
    · exact .inl ⟨Nat.le_of_ble_eq_true hb3, by rw [key, hb3]; rfl⟩
  · exact .inl ⟨Nat.le_of_ble_eq_true hb, by simp only [savG, hb, cond_true]⟩
theorem savG_vg (vg gh yn pn : Nat) (pin : AV) (F : Nat → AV) : savG vg gh yn pn pin F vg = .d .any := by
  simp only [savG, blt_irr, Nat.beq_refl, cond_true, cond_false]
abbrev savF (pin : AV) (F : Nat → AV) (i : Nat) : AV := savG VG GH YN PN pin F i
theorem savF_cases (pin : AV) (F : Nat → AV) (i : Nat) (hi : i ≠ VG) : (i < VG ∧ savF pin F i = (F i).kill YN) ∨ (VG < i ∧ ((i - GH < VG ∧ savF pin F i = (F (i - GH)).kill YN) ∨ (i - GH = VG ∧ savF pin F i = pin) ∨ (PN ≤ i ∧ savF pin F i = keepV (F i)) ∨ savF pin F i = .d .any)) := savG_cases VG GH YN PN pin F i hi
theorem slotAt_ge {c : Ctx} {a : Act} {φ : Nat → Nat × Nat} {i : Nat} (h : VG < i) (h2 : i - GH ≤ VG) : slotAt c a φ i = c.gv (i - GH) := by
  unfold slotAt
  have hb : Nat.blt i PN = true := Nat.ble_eq_true_of_le (show i + 1 ≤ 3000000 by have : i - 1000000 ≤ 999999 := h2; omega)
  rw [blt_no (show GH ≤ i from h), hb]
  simp only [cond_false, cond_true]
def unsF (F : Nat → AV) (i : Nat) : AV := bif Nat.blt i VG then (F (GH + i)).kill YN else bif Nat.ble PN i then keepV (F i) else .d .any
/-- Behind the body. -/
def uns (t : AS) : AS := ⟨unsF t.fr, upd t.mem YN none⟩
def putL (s : AS) : List Nat → List AV → AS
  | p :: ps, x :: xs => putL ⟨upd s.fr p x, s.mem⟩ ps xs
  | _, _ => s
/-- The state at the body's head. -/
def bodyS (S : AS) (ps : List Nat) : YA → AS
  | .gv ds => putL ⟨savF (.d .any) S.fr, upd S.mem YN none⟩ ps (ds.map .d)
  | .sl ty cells n sz => putL ⟨savF (.lsl YN 0 n sz) S.fr, upd S.mem YN (some ⟨ty, cells⟩)⟩ ps [.lsl YN 0 n sz]
/-- What the body leaves as it was: the slice that it was shown. -/
def shown (t : AS) : YA → Prop
  | .gv _ => True
  | .sl ty cells n sz => t.mem YN = some ⟨ty, cells⟩ ∧ t.fr (GH + VG) = .lsl YN 0 n sz


theorem putL_R {c : Ctx} {φ : Nat → Nat × Nat} {W : World} : ∀ (ps : List Nat) (xs : List AV) (vs : List Value) (s : AS) (a : Act), R c s φ a W → (∀ p ∈ ps, p < c.nt) → xs.length = ps.length → vs.length = ps.length → (∀ (j : Nat) (x : AV) (v : Value), xs[j]? = some x → vs[j]? = some v → x.rep (okOf c φ s) φ W v) →
    R c (putL s ps xs) φ { tmps := (ps.zip vs).foldl (fun t (p, v) => t.setIfInBounds p v) a.tmps, defers := a.defers } W
  | [], xs, vs, s, a, h, _, _, _, _ => by
    have : putL s [] xs = s := by cases xs <;> rfl
    rw [this]; exact h
  | p :: ps, [], vs, s, a, h, _, h2, _, _ => by simp at h2
  | p :: ps, x :: xs, [], s, a, h, _, _, h3, _ => by simp at h3
  | p :: ps, x :: xs, v :: vs, s, a, h, h1, h2, h3, h4 => by
    have hp := h.put (dst := some p) (r := x) (v := v) (fun d hd => by cases hd; exact h1 p (by simp)) (h4 0 x v rfl rfl)
    exact putL_R ps xs vs _ _ hp (fun q hq => h1 q (by simp [hq])) (by simpa using h2) (by simpa using h3) fun j x v hx hv => h4 (j + 1) x v (by simpa using hx) (by simpa using hv)
/-- The context of a round. -/
@[reducible] def rctx (W : World) (ok : Nat → Prop) (nt : Nat) (rd : Option Nat) (ex : Nat → Prop) (gv : Nat → Value) : Ctx := ⟨W, ok, nt, rd, false, ex, gv, fun _ _ _ => True, fun _ _ _ _ _ _ _ _ _ _ => trivial⟩
def named (s : AS) (φ : Nat → Nat × Nat) (b : Nat) : Prop := ∃ nm, s.mem nm ≠ none ∧ (φ nm).1 = b

theorem savF_R {w0 W : World} {ok : Nat → Prop} {nt : Nat} {K okA : Nat → Prop} {S : AS} {φ φ2 : Nat → Nat × Nat} {a : Act} {M : Nat → Option Blk} {rd : Option Nat} {gv : Nat → Value} {pin : AV} (h : RK (kx w0 ok nt) K S φ a W) (hK : ∀ b, K b → b < W.heap.size)
    (hφ : ∀ m, m ≠ YN → φ2 m = φ m) (hM : ∀ m, m ≠ YN → M m = S.mem m) (hY : M YN ≠ none → ¬ K (φ2 YN).1) (hYb : ∀ blk, M YN = some blk → BlkAt (fun b => kok (kx w0 ok nt) φ S K b ∨ okA b) W (φ2 YN) blk) (hYA : M YN ≠ none → ¬ okA (φ2 YN).1)
    (hA : ∀ b, okA b → b < W.heap.size ∧ ¬ named S φ b) (hg1 : ∀ j, j < VG → gv j = a.tmps.getD j undef) (hg2 : ∀ ok, pin.rep ok φ2 W (gv VG)) :
    R (rctx W (fun b => kok (kx w0 ok nt) φ S K b ∨ okA b) nt rd (named ⟨savF pin S.fr, M⟩ φ2) gv) ⟨savF pin S.fr, M⟩ φ2 { tmps := a.tmps, defers := [] } W := by
  have hnex : ∀ b, (kok (kx w0 ok nt) φ S K b ∨ okA b) → ¬ named ⟨savF pin S.fr, M⟩ φ2 b := by
    rintro b hb ⟨nm, hnm, e⟩
    by_cases en : nm = YN
    · subst en
      rcases hb with hb | hb
      · exact hY hnm (e ▸ hb.2)
      · exact hYA hnm (e ▸ hb)
    · have hn2 : S.mem nm ≠ none := by rw [← hM nm en]; exact hnm
      rw [hφ nm en] at e
      rcases hb with ⟨hb | hb, _⟩ | hb
      · obtain ⟨blk, hblk⟩ := Option.ne_none_iff_exists'.1 hn2
        have := h.own nm blk hblk
        have hlt : b < w0.heap.size := hb.1
        have : w0.heap.size ≤ (φ nm).1 := this
        omega
      · exact hb.2 nm hn2 e
      · exact (hA b hb).2 ⟨nm, hn2, e⟩
  have hlt : ∀ b, (kok (kx w0 ok nt) φ S K b ∨ okA b) → b < W.heap.size := fun b hb => by
    rcases hb with hb | hb
    · exact hK b hb.2
    · exact (hA b hb).1
  have hsub : ∀ b, (kok (kx w0 ok nt) φ S K b ∨ okA b) → okOf (rctx W (fun b => kok (kx w0 ok nt) φ S K b ∨ okA b) nt rd (named ⟨savF pin S.fr, M⟩ φ2) gv) φ2 ⟨savF pin S.fr, M⟩ b := fun b hb => .inl ⟨hlt b hb, hb, hnex b hb⟩
  have hk1 : Keeps (kok (kx w0 ok nt) φ S K) W (okOf (rctx W (fun b => kok (kx w0 ok nt) φ S K b ∨ okA b) nt rd (named ⟨savF pin S.fr, M⟩ φ2) gv) φ2 ⟨savF pin S.fr, M⟩) W := Keeps.wide fun b hb _ => hsub b (.inl hb)
  have hk2 : Keeps (fun b => kok (kx w0 ok nt) φ S K b ∨ okA b) W (okOf (rctx W (fun b => kok (kx w0 ok nt) φ S K b ∨ okA b) nt rd (named ⟨savF pin S.fr, M⟩ φ2) gv) φ2 ⟨savF pin S.fr, M⟩) W := Keeps.wide fun b hb _ => hsub b hb
  have hkill : ∀ j, j < VG → ((S.fr j).kill YN).rep (okOf (rctx W (fun b => kok (kx w0 ok nt) φ S K b ∨ okA b) nt rd (named ⟨savF pin S.fr, M⟩ φ2) gv) φ2 ⟨savF pin S.fr, M⟩) φ2 W (a.tmps.getD j undef) := fun j hj => by
    have h1 := h.fr j (Nat.ne_of_lt hj)
    rw [slotAt_lt hj] at h1
    exact AV.rep_kill hφ (AV.rep_keeps hk1 h1)
  refine ⟨BelowX.refl _ _, ⟨[], rfl, List.nodup_nil, fun D hD => by cases hD⟩, h.size, h.ntv, fun i hi => ?_, fun nm blk hn => .inr ⟨nm, by rw [hn]; simp, rfl⟩, fun nm blk hn => ?_, fun x y hx hy hxy => ?_, fun k hk => ?_⟩
  · show (savF pin S.fr i).rep _ φ2 W _
    rcases savF_cases pin S.fr i hi with ⟨h1, h2⟩ | ⟨h1, ⟨h2, h3⟩ | ⟨h2, h3⟩ | ⟨h2, h3⟩ | h2⟩
    · rw [h2, slotAt_lt h1]; exact hkill _ h1
    · rw [h3, (slotAt_ge h1 (Nat.le_of_lt h2)).trans (hg1 _ h2)]; exact hkill _ h2
    · rw [h3, (slotAt_ge h1 (Nat.le_of_eq h2)).trans (congrArg gv h2)]; exact hg2 _
    · have h5 := h.fr i hi
      rw [slotAt_hi h2] at h5
      rw [h3, slotAt_hi h2, hφ i (fun e => by have h6 : 3000000 ≤ i := h2; have h7 : i = 900000 := e; omega)]
      exact keepV_rep h5
    · rw [h2]; exact any_rep
  · by_cases e : nm = YN
    · subst e
      exact (hYb blk hn).keeps hk2 rfl
    · have hn2 : S.mem nm = some blk := by rw [← hM nm e]; exact hn
      rw [hφ nm e]
      exact (h.mem nm blk hn2).keeps hk1 rfl
  · have hx' : M x ≠ none := hx
    have hy' : M y ≠ none := hy
    by_cases ex : x = YN
    · subst ex
      have hyn : y ≠ YN := Ne.symm hxy
      rw [hφ y hyn]
      exact fun e => hY hx' (e ▸ h.kn y (by rw [← hM y hyn]; exact hy'))
    · rw [hφ x ex]
      by_cases ey : y = YN
      · subst ey
        exact fun e => hY hy' (e ▸ h.kn x (by rw [← hM x ex]; exact hx'))
      · rw [hφ y ey]
        exact h.inj x y (by rw [← hM x ex]; exact hx') (by rw [← hM y ey]; exact hy') hxy
  · exfalso
    have e : savF pin S.fr VG = .d .any := savG_vg _ _ _ _ _ _
    have hk : savF pin S.fr VG = .d (.val (.int .i64 k)) := hk
    rw [e] at hk; cases hk

theorem cell_loop {W : World} {l : Nat} {r : Loop} (h : W.heap[l]? = some (.loop r)) (o : Nat) : W.cell? ⟨l, o, none⟩ = none := by
  cases hc : W.cell? ⟨l, o, none⟩ with
  | none => rfl
  | some u =>
    obtain ⟨ob, h1, h2⟩ := cells_of_cell hc
    rw [h] at h1; cases h1; cases h2
theorem keeps_loop {W : World} {l : Nat} {r : Loop} (o' : Obj) (h : W.heap[l]? = some (.loop r)) (ok : Nat → Prop) : Keeps ok W ok (W.putObj l o') := by
  refine ⟨fun _ h _ => h, by simp [World.putObj], fun b o u _ _ hc => ?_⟩
  by_cases e : b = l
  · subst e; rw [cell_loop h] at hc; cases hc
  · exact (World.cell?_of_block (a := ⟨b, o, none⟩) (World.putObj_heap_other e)).trans hc
theorem blk_not_loop {ok : Nat → Prop} {W : World} {p : Nat × Nat} {blk : Blk} (h : BlkAt ok W p blk) {r : Loop} : W.heap[p.1]? ≠ some (.loop r) := by
  obtain ⟨vs, ex, hh, _⟩ := h
  rw [hh]; intro e; cases e
/-- The record of the loop is turned. -/
theorem R.swapL {W w : World} {ok ex : Nat → Prop} {nt : Nat} {rd : Option Nat} {gv : Nat → Value} {s : AS} {φ : Nat → Nat × Nat} {a : Act} (h : R (rctx W ok nt rd ex gv) s φ a w) {l : Nat} {r : Loop} (o' : Obj) (hl : w.heap[l]? = some (.loop r)) (hlW : l < W.heap.size) :
    R (rctx (W.putObj l o') ok nt rd ex gv) s φ a (w.putObj l o') := by
  have hsz : (W.putObj l o').heap.size = W.heap.size := by simp [World.putObj]
  have hok : okOf (rctx (W.putObj l o') ok nt rd ex gv) φ s = okOf (rctx W ok nt rd ex gv) φ s := by
    funext b; unfold okOf Ctx.mine; simp only [hsz]
  have hk := keeps_loop o' hl (okOf (rctx W ok nt rd ex gv) φ s)
  have hlt : l < w.heap.size := (Array.getElem?_eq_some_iff.1 hl).1
  refine ⟨⟨h.below.os, h.below.tape, h.below.output, by simp [World.putObj]; exact h.below.size, fun k hk1 he => ?_⟩, ?_, h.size, h.ntv, fun i hi => by rw [hok]; exact AV.rep_keeps hk (h.fr i hi), fun nm blk hn => ?_, fun nm blk hn => ?_, h.inj, fun k _ => ⟨fun _ => False, trivial, fun _ _ h => h, fun _ h => h.elim, fun _ _ h => h⟩⟩
  · rw [hsz] at hk1
    by_cases e : k = l
    · subst e; rw [World.putObj_heap_same hlt, World.putObj_heap_same hlW]
    · rw [World.putObj_heap_other e, World.putObj_heap_other e]; exact h.below.block k hk1 he
  · obtain ⟨Ds, h1, h2, h3⟩ := h.defers
    refine ⟨Ds, h1, h2, fun D hD => ⟨⟨rfl, by rw [hsz]; exact (h3 D hD).1.2⟩, ?_⟩⟩
    have hne : D ≠ l := by rintro rfl; have := (h3 D hD).2; rw [hl] at this; cases this
    exact (World.putObj_heap_other hne).trans (h3 D hD).2
  · have := h.own nm blk hn
    unfold Ctx.mine at *
    rw [hsz]; exact this
  · rw [hok]
    have hb := h.mem nm blk hn
    exact hb.keeps hk (World.putObj_heap_other (fun e => blk_not_loop hb (e ▸ hl)))

/-- What a round leaves. -/
theorem round_RK {w0 W w3 : World} {ok : Nat → Prop} {nt : Nat} {K okA : Nat → Prop} {S t : AS} {φ φ2 φ3 : Nat → Nat × Nat} {a a3 : Act} {M : Nat → Option Blk} {rd : Option Nat} {gv : Nat → Value} {pin : AV} (h : RK (kx w0 ok nt) K S φ a W) (hK : ∀ b, K b → b < W.heap.size)
    (hφ : ∀ m, m ≠ YN → φ2 m = φ m) (hM : ∀ m, m ≠ YN → M m = S.mem m) (hY : M YN ≠ none → ¬ K (φ2 YN).1)
    (hA : ∀ b, okA b → b < W.heap.size ∧ ¬ named S φ b) (hA2 : ∀ b, okA b → b < w0.heap.size → ok b) (hg1 : ∀ j, j < VG → gv j = a.tmps.getD j undef) {n sz cap : Nat} (hg2 : M YN ≠ none → gv VG = .slice (some ⟨(φ2 YN).1, 0, none⟩) n cap ∧ (φ2 YN).2 = cap * sz)
    {l : Nat} {r r3 : Loop} (o' o3 : Obj) (hl : W.heap[l]? = some (.loop r)) (hl0 : w0.heap.size ≤ l) (hl3 : w3.heap[l]? = some (.loop r3))
    (h3 : R (rctx (W.putObj l o') (fun b => kok (kx w0 ok nt) φ S K b ∨ okA b) nt rd (named ⟨savF pin S.fr, M⟩ φ2) gv) t φ3 a3 w3) (hsh : M YN ≠ none → t.mem YN ≠ none ∧ t.fr (GH + VG) = .lsl YN 0 n sz) (hYd : M YN ≠ none → ∀ x, W.heap[(φ2 YN).1]? ≠ some (.deferred x)) :
    RK (kx w0 ok nt) (fun b => K b ∨ okA b ∨ (W.heap.size ≤ b ∧ b < (w3.putObj l o3).heap.size)) (uns t) φ3 a (w3.putObj l o3) ∧ (∀ nm, (uns t).mem nm ≠ none → named S φ (φ3 nm).1 ∨ W.heap.size ≤ (φ3 nm).1) ∧
      (∀ k, k < W.heap.size → k ≠ l → ¬ named S φ k → (M YN ≠ none → k ≠ (φ2 YN).1) → (w3.putObj l o3).heap[k]? = W.heap[k]?) ∧ (M YN ≠ none → φ3 YN = φ2 YN) := by
  have hszW : (W.putObj l o').heap.size = W.heap.size := by simp [World.putObj]
  have hsz3 : (w3.putObj l o3).heap.size = w3.heap.size := by simp [World.putObj]
  have hmine : ∀ b, (rctx (W.putObj l o') (fun b => kok (kx w0 ok nt) φ S K b ∨ okA b) nt rd (named ⟨savF pin S.fr, M⟩ φ2) gv).mine b → W.heap.size ≤ b ∨ named ⟨savF pin S.fr, M⟩ φ2 b := fun b hb => by
    rcases hb with hb | hb
    · exact .inl (by rw [← hszW]; exact hb)
    · exact .inr hb
  have hW0 := h.below.size
  -- an old named block is the caller's, or the one that is shown
  have hnam : ∀ b, named ⟨savF pin S.fr, M⟩ φ2 b → (K b ∧ w0.heap.size ≤ b ∧ named S φ b) ∨ (M YN ≠ none ∧ b = (φ2 YN).1) := by
    rintro b ⟨nm, hnm, e⟩
    have hnm : M nm ≠ none := hnm
    by_cases en : nm = YN
    · subst en; exact .inr ⟨hnm, e.symm⟩
    · rw [hφ nm en] at e
      have hn2 : S.mem nm ≠ none := by rw [← hM nm en]; exact hnm
      obtain ⟨blk, hblk⟩ := Option.ne_none_iff_exists'.1 hn2
      exact .inl ⟨e ▸ h.kn nm hn2, e ▸ h.own nm blk hblk, nm, hn2, e⟩
  have hpin2 : M YN ≠ none → φ3 YN = φ2 YN := fun hY1 => by
    have h1 := h3.fr (GH + VG) (by have : GH = VG + 1 := rfl; omega)
    rw [(hsh hY1).2] at h1
    obtain ⟨cap', h2, _, _, h5⟩ := h1
    have h6 := (slotAt_ge (c := rctx (W.putObj l o') (fun b => kok (kx w0 ok nt) φ S K b ∨ okA b) nt rd (named ⟨savF pin S.fr, M⟩ φ2) gv) (a := a3) (φ := φ3) (i := GH + VG) (by have : GH = VG + 1 := rfl; omega) (by omega)).symm.trans h2
    rw [show GH + VG - GH = VG by omega] at h6
    obtain ⟨h7, h8⟩ := hg2 hY1
    obtain ⟨h9, h10⟩ := sl_inj (h7.symm.trans h6)
    exact Prod.ext h9.symm (by rw [h8, h10]; omega)
  have hpin : M YN ≠ none → (φ3 YN).1 = (φ2 YN).1 := fun h => by rw [hpin2 h]
  have hun : ∀ b, (∀ nm, t.mem nm ≠ none → (φ3 nm).1 ≠ b) → ∀ nm, (uns t).mem nm ≠ none → (φ3 nm).1 ≠ b := fun b hb nm hn => hb nm (by
    have hn : upd t.mem YN none nm ≠ none := hn
    by_cases e : nm = YN
    · subst e; rw [upd_same] at hn; exact absurd rfl hn
    · rwa [upd_ne _ _ e] at hn)
  have hsub : ∀ b, okOf (rctx (W.putObj l o') (fun b => kok (kx w0 ok nt) φ S K b ∨ okA b) nt rd (named ⟨savF pin S.fr, M⟩ φ2) gv) φ3 t b → b < w3.heap.size → kok (kx w0 ok nt) φ3 (uns t) (fun b => K b ∨ okA b ∨ (W.heap.size ≤ b ∧ b < (w3.putObj l o3).heap.size)) b := by
    intro b hb hlt
    rcases hb with ⟨hb1, hb2, hb3⟩ | ⟨hb1, hb2⟩
    · have hb1 : b < W.heap.size := by rw [← hszW]; exact hb1
      have hunn : ∀ nm, t.mem nm ≠ none → (φ3 nm).1 ≠ b := fun nm hn e => by
        obtain ⟨blk, hblk⟩ := Option.ne_none_iff_exists'.1 hn
        rcases hmine _ (h3.own nm blk hblk) with h5 | h5
        · omega
        · exact hb3 (e ▸ h5)
      rcases hb2 with hb2 | hb2
      · refine ⟨?_, .inl hb2.2⟩
        rcases hb2.1 with h5 | h5
        · exact .inl h5
        · exact .inr ⟨h5.1, hun b hunn⟩
      · refine ⟨?_, .inr (.inl hb2)⟩
        rcases Nat.lt_or_ge b w0.heap.size with h5 | h5
        · exact .inl ⟨h5, hA2 b hb2 h5, fun h => h⟩
        · exact .inr ⟨.inl h5, hun b hunn⟩
    · rcases hmine b hb1 with h5 | h5
      · exact ⟨.inr ⟨.inl (Nat.le_trans hW0 h5), hun b hb2⟩, .inr (.inr ⟨h5, by rw [hsz3]; exact hlt⟩)⟩
      · rcases hnam b h5 with ⟨h6, h7, _⟩ | ⟨h6, h7⟩
        · exact ⟨.inr ⟨.inl h7, hun b hb2⟩, .inl h6⟩
        · exact absurd (hpin h6 |>.trans h7.symm) (hb2 YN (hsh h6).1)
  have hk : Keeps (okOf (rctx (W.putObj l o') (fun b => kok (kx w0 ok nt) φ S K b ∨ okA b) nt rd (named ⟨savF pin S.fr, M⟩ φ2) gv) φ3 t) w3 (kok (kx w0 ok nt) φ3 (uns t) (fun b => K b ∨ okA b ∨ (W.heap.size ≤ b ∧ b < (w3.putObj l o3).heap.size))) (w3.putObj l o3) := by
    have h5 := keeps_loop o3 hl3 (okOf (rctx (W.putObj l o') (fun b => kok (kx w0 ok nt) φ S K b ∨ okA b) nt rd (named ⟨savF pin S.fr, M⟩ φ2) gv) φ3 t)
    exact ⟨fun b hb hlt => hsub b hb hlt, h5.size, h5.cell⟩
  have hold : ∀ k, k < W.heap.size → k ≠ l → ¬ named ⟨savF pin S.fr, M⟩ φ2 k → (w3.putObj l o3).heap[k]? = W.heap[k]? := fun k hk1 hkl hkn => by
    rw [World.putObj_heap_other hkl, h3.below.block k (by rw [hszW]; exact hk1) hkn, World.putObj_heap_other hkl]
  have hmem : ∀ nm blk, (uns t).mem nm = some blk → nm ≠ YN ∧ t.mem nm = some blk := fun nm blk hn => by
    have hn : upd t.mem YN none nm = some blk := hn
    by_cases e : nm = YN
    · subst e; rw [upd_same] at hn; cases hn
    · exact ⟨e, by rwa [upd_ne _ _ e] at hn⟩
  have hown : ∀ nm blk, (uns t).mem nm = some blk → w0.heap.size ≤ (φ3 nm).1 ∧ ((K (φ3 nm).1 ∧ named S φ (φ3 nm).1) ∨ W.heap.size ≤ (φ3 nm).1) := fun nm blk hn => by
    obtain ⟨e, hn2⟩ := hmem nm blk hn
    rcases hmine _ (h3.own nm blk hn2) with h5 | h5
    · exact ⟨Nat.le_trans hW0 h5, .inr h5⟩
    · rcases hnam _ h5 with ⟨h6, h7, h8⟩ | ⟨h6, h7⟩
      · exact ⟨h7, .inl ⟨h6, h8⟩⟩
      · exact absurd (h7.trans (hpin h6).symm) (h3.inj nm YN (by rw [hn2]; simp) (hsh h6).1 e)
  have hnmk : ∀ k, k < w0.heap.size → ¬ named ⟨savF pin S.fr, M⟩ φ2 k := fun k hk1 hn => by
    rcases hnam k hn with ⟨_, h7, _⟩ | ⟨h6, h7⟩
    · omega
    · exact hY h6 (h7 ▸ h.k0 k hk1)
  refine ⟨?_, fun nm hn => ?_, fun k hk1 hkl hkn hky => hold k hk1 hkl fun hn => ?_, hpin2⟩
  rotate_left
  · obtain ⟨blk, hblk⟩ := Option.ne_none_iff_exists'.1 hn
    rcases (hown nm blk hblk).2 with h5 | h5
    · exact .inl h5.2
    · exact .inr h5
  · rcases hnam k hn with ⟨_, _, h7⟩ | ⟨h6, h7⟩
    · exact hkn h7
    · exact hky h6 h7
  refine ⟨⟨h3.below.os.trans h.below.os, h3.below.tape.trans h.below.tape, h3.below.output.trans h.below.output, ?_, fun k hk1 => ?_⟩, fun b hb => .inl (h.k0 b hb), ?_, fun D hD => .inl (h.kd D hD), h.size, h.ntv, fun i hi => ?_, fun nm blk hn => (hown nm blk hn).1, fun nm hn => ?_, fun nm blk hn => ?_, fun x y hx hy hxy => ?_⟩
  · rw [hsz3]; exact Nat.le_trans hW0 (by rw [← hszW]; exact h3.below.size)
  · exact (hold k (Nat.lt_of_lt_of_le hk1 hW0) (by have : k < w0.heap.size := hk1; omega) (hnmk k hk1)).trans (h.below.block k hk1)
  · refine h.defers.keeps fun D hD0 hD => hold D (Array.getElem?_eq_some_iff.1 hD).1 (by rintro rfl; rw [hl] at hD; cases hD) fun hn => ?_
    obtain ⟨nm, hnm, e⟩ := hn
    have hnm : M nm ≠ none := hnm
    by_cases en : nm = YN
    · subst en; exact hYd hnm _ (e ▸ hD)
    · rw [hφ nm en] at e
      obtain ⟨blk, hblk⟩ := Option.ne_none_iff_exists'.1 (show S.mem nm ≠ none by rw [← hM nm en]; exact hnm)
      obtain ⟨vs, ex, hh, _⟩ := h.mem nm blk hblk
      rw [e, hD] at hh; cases hh
  · show (unsF t.fr i).rep _ φ3 _ _
    unfold unsF
    cases hb : Nat.blt i VG
    · cases hb2 : Nat.ble PN i
      · simp only [cond_false, AV.rep, DV.rep]
      · have hpn : PN ≤ i := Nat.le_of_ble_eq_true hb2
        have h5 := h3.fr i (fun e => by have h6 : 3000000 ≤ i := hpn; have h7 : i = 999999 := e; omega)
        rw [slotAt_hi hpn] at h5
        simp only [cond_false, cond_true]
        rw [slotAt_hi hpn]
        exact keepV_rep h5
    · simp only [cond_true]
      have hj : i < VG := Nat.le_of_ble_eq_true hb
      have h5 := h3.fr (GH + i) (by have : GH = VG + 1 := rfl; omega)
      have h6 : slotAt (rctx (W.putObj l o') (fun b => kok (kx w0 ok nt) φ S K b ∨ okA b) nt rd (named ⟨savF pin S.fr, M⟩ φ2) gv) a3 φ3 (GH + i) = slotAt (kx w0 ok nt) a φ3 i := by
        rw [slotAt_lt hj, slotAt_ge (by have : GH = VG + 1 := rfl; omega) (by omega)]
        rw [show GH + i - GH = i by omega]
        exact hg1 i hj
      rw [h6] at h5
      exact AV.rep_kill (fun _ _ => rfl) (AV.rep_keeps hk h5)
  · obtain ⟨blk, hblk⟩ := Option.ne_none_iff_exists'.1 hn
    obtain ⟨e, hn2⟩ := hmem nm blk hblk
    rcases (hown nm blk hblk).2 with h5 | h5
    · exact .inl h5.1
    · exact .inr (.inr ⟨h5, by rw [hsz3]; exact h3.lt (by rw [hn2]; simp)⟩)
  · obtain ⟨e, hn2⟩ := hmem nm blk hn
    have hb := h3.mem nm blk hn2
    exact hb.keeps hk (World.putObj_heap_other (fun e => blk_not_loop hb (e ▸ hl3)))
  · obtain ⟨bx, hbx⟩ := Option.ne_none_iff_exists'.1 hx
    obtain ⟨bY, hby⟩ := Option.ne_none_iff_exists'.1 hy
    exact h3.inj x y (by rw [(hmem x bx hbx).2]; simp) (by rw [(hmem y bY hby).2]; simp) hxy

end Go.Proofs.Ytiabcffcbhlbiaa
