/- Merged: XM4 XM5 XM6. -/
import Derived.Test.YtgjhikjnlcbmkaaM3
set_option linter.unusedVariables false
set_option linter.unusedSimpArgs false
/- Ranges over functions: the caller's side. Nothing of the program. -/
namespace Go.Proofs.Ytgjhikjnlcbmkaa
open Go.RowKit

structure SameW (w w' : World) : Prop where
  os : w'.os = w.os
  tape : w'.tape = w.tape
  output : w'.output = w.output
  size : w.heap.size ≤ w'.heap.size
theorem SameW.refl (w : World) : SameW w w := ⟨rfl, rfl, rfl, Nat.le_refl _⟩
theorem SameW.trans {a b c : World} (h : SameW a b) (k : SameW b c) : SameW a c := ⟨k.os.trans h.os, k.tape.trans h.tape, k.output.trans h.output, Nat.le_trans h.size k.size⟩
theorem SameW.putObj (w : World) (l : Nat) (o : Obj) : SameW w (w.putObj l o) := ⟨rfl, rfl, rfl, by simp [World.putObj]⟩
theorem Glob.putLoop {w : World} (h : Glob w) {l : Nat} {r : Loop} (hl : w.heap[l]? = some (.loop r)) (o : Obj) : Glob (w.putObj l o) := h.keeps fun b hb => World.putObj_heap_other fun e => by
  obtain ⟨cs, t, f, hc⟩ := h.cells hb
  rw [e, hl] at hc; cases hc
theorem BelowX.same {ex : Nat → Prop} {w0 w : World} (h : BelowX ex w0 w) : SameW w0 w := ⟨h.os, h.tape, h.output, h.size⟩

inductive YA where
  | gv (ds : List DV)
  | sl (ty : TypeId) (cells : List DV) (n sz : Nat)
abbrev YN : Nat := 900000

def YA.rep (K okA : Nat → Prop) (W : World) : YA → List Value → Prop
  | .gv ds, vs => DV.repL okA W ds vs
  | .sl ty cells n sz, vs => ∃ g cap, vs = [.slice (some ⟨g, 0, none⟩) n cap] ∧ n ≤ cap ∧ cap ≤ maxLen ∧ ¬ K g ∧ ¬ okA g ∧ DV.flatL cells = true ∧ BlkAt okA W (g, cap * sz) ⟨ty, cells⟩
def YA.shows (d : YA) (vs : List Value) (b : Nat) : Prop := match d with
  | .gv _ => False
  | .sl _ _ n _ => ∃ cap, vs = [.slice (some ⟨b, 0, none⟩) n cap]

abbrev Ghost := Nat → (Nat → Prop) → World → Prop
def Stable (J : Ghost) : Prop := ∀ k K w w', J k K w → SameW w w' → (∀ b, K b → w'.heap[b]? = w.heap[b]?) → J k K w'

def kok (c : Ctx) (φ : Nat → Nat × Nat) (t : AS) (K : Nat → Prop) (b : Nat) : Prop := okOf c φ t b ∧ K b
structure RK (c : Ctx) (K : Nat → Prop) (t : AS) (φ : Nat → Nat × Nat) (a : Act) (W : World) : Prop where
  below : Below c.w0.heap.size c.w0 W
  k0 : ∀ b, b < c.w0.heap.size → K b
  defers : Marks c a.defers W
  kd : ∀ D, ({ target := .collected D, args := #[] } : Deferred) ∈ a.defers → K D
  size : a.tmps.size = c.nt
  ntv : c.nt ≤ VG
  fr : ∀ i, i ≠ VG → (t.fr i).rep (kok c φ t K) φ W (slotAt c a φ i)
  own : ∀ nm blk, t.mem nm = some blk → c.w0.heap.size ≤ (φ nm).1
  kn : ∀ nm, t.mem nm ≠ none → K (φ nm).1
  mem : ∀ nm blk, t.mem nm = some blk → BlkAt (kok c φ t K) W (φ nm) blk
  inj : ∀ n m, t.mem n ≠ none → t.mem m ≠ none → n ≠ m → (φ n).1 ≠ (φ m).1
  gl : Glob c.w0

section
variable {w0 : World} {ok : Nat → Prop} {nt : Nat} {K : Nat → Prop} {t : AS} {φ : Nat → Nat × Nat} {a : Act} {W W' : World}

theorem RK.weaken {c : Ctx} {t' : AS} (h : RK c K t φ a W) (hl : t.le t') : RK c K t' φ a W := by
  have hm : ∀ n, t'.mem n ≠ none → t.mem n ≠ none := fun n hn => by
    cases hb : t'.mem n with
    | none => exact absurd hb hn
    | some b => rw [hl.mem n b hb]; simp
  have hk : Keeps (kok c φ t K) W (kok c φ t' K) W := Keeps.wide fun b hb _ => by
    refine ⟨?_, hb.2⟩
    rcases hb.1 with hb | ⟨hb, hb2⟩
    · exact .inl hb
    · exact .inr ⟨hb, fun n hn => hb2 n (hm n hn)⟩
  refine ⟨h.below, h.k0, h.defers, h.kd, h.size, h.ntv, fun i hi => ?_, fun n b hb => h.own n b (hl.mem n b hb), fun n hn => h.kn n (hm n hn), fun n b hb => (h.mem n b (hl.mem n b hb)).keeps hk rfl, fun x y hx hy => h.inj x y (hm x hx) (hm y hy), h.gl⟩
  rcases hl.fr i with e | e
  · rw [e]; simp only [AV.rep, DV.rep]
  · rw [e]; exact AV.rep_keeps hk (h.fr i hi)
end

theorem blt_no {n m : Nat} (h : m ≤ n) : Nat.blt n m = false := by
  cases h1 : Nat.blt n m
  · rfl
  · have := Nat.le_of_ble_eq_true h1; omega
/-! The body's frame: the loop's own, which it bears a second time in virtual slots. -/
def shown (t : AS) : YA → Prop
  | .gv _ => True
  | .sl ty cells n sz => t.mem YN = some ⟨ty, cells⟩ ∧ t.fr (GH + VG) = .lsl YN 0 n sz


@[reducible] def rctx (W : World) (ok : Nat → Prop) (nt : Nat) (rd : Option Nat) (ex : Nat → Prop) (gv : Nat → Value) : Ctx := ⟨W, ok, nt, rd, false, ex, gv, fun _ _ _ => True, fun _ _ _ _ _ _ _ _ _ _ => trivial⟩
theorem cell_loop {W : World} {l : Nat} {r : Loop} (h : W.heap[l]? = some (.loop r)) (o : Nat) : W.cell? ⟨l, o, none⟩ = none := by
  cases hc : W.cell? ⟨l, o, none⟩ with
  | none => rfl
  | some u =>
    obtain ⟨ob, h1, h2⟩ := cells_of_cell hc
    rw [h] at h1; cases h1; cases h2
theorem keeps_loop {W : World} {l : Nat} {r : Loop} (o' : Obj) (h : W.heap[l]? = some (.loop r)) (ok : Nat → Prop) : Keeps ok W ok (W.putObj l o') := by
  refine ⟨fun _ h _ => h, by simp [World.putObj], fun b o u _ _ hc => ?_⟩
  by_cases e : b = l
  · subst e; rw [cell_loop h] at hc; cases hc
  · exact (World.cell?_of_block (a := ⟨b, o, none⟩) (World.putObj_heap_other e)).trans hc
theorem blk_not_loop {ok : Nat → Prop} {W : World} {p : Nat × Nat} {blk : Blk} (h : BlkAt ok W p blk) {r : Loop} : W.heap[p.1]? ≠ some (.loop r) := by
  obtain ⟨vs, ex, hh, _⟩ := h
  rw [hh]; intro e; cases e
end Go.Proofs.Ytgjhikjnlcbmkaa

/- Ranges over functions: the caller's rule. Nothing of the program. -/
namespace Go.Proofs.Ytgjhikjnlcbmkaa
open Go.RowKit

def YA.cnt : YA → Nat
  | .gv ds => ds.length
  | .sl _ _ _ _ => 1
theorem R.putLoop {w0 w : World} {ok : Nat → Prop} {nt : Nat} {t : AS} {φ : Nat → Nat × Nat} {a : Act} (h : R (kx w0 ok nt) t φ a w) {l : Nat} {r : Loop} (o' : Obj) (hl : w.heap[l]? = some (.loop r)) (hl0 : w0.heap.size ≤ l) : R (kx w0 ok nt) t φ a (w.putObj l o') := by
  have hk := keeps_loop o' hl (okOf (kx w0 ok nt) φ t)
  refine ⟨⟨h.below.os, h.below.tape, h.below.output, by simp [World.putObj]; exact h.below.size, fun k hk1 he => (World.putObj_heap_other (by have : k < w0.heap.size := hk1; omega)).trans (h.below.block k hk1 he), h.below.gl⟩, h.defers.keeps fun D _ hD => World.putObj_heap_other (by rintro rfl; rw [hl] at hD; cases hD), h.size, h.ntv, fun i hi => AV.rep_keeps hk (h.fr i hi), h.own, fun nm blk hn => ?_, h.inj, fun k _ => ⟨fun _ => False, trivial, fun _ _ h => h, fun _ h => h.elim, fun _ _ h => h⟩⟩
  have hb := h.mem nm blk hn
  exact hb.keeps hk (World.putObj_heap_other (fun e => blk_not_loop hb (e ▸ hl)))
inductive FnB (s : AS) (y : Operand) (f : FuncId) : List DV → List DV → Prop
  | val (h : s.ev y = .d (.val (.func (.func f) #[] #[]))) : FnB s y f [] []
  | fn {bs caps} (h : s.ev y = .d (.fn (.func f) bs caps)) : FnB s y f bs caps

end Go.Proofs.Ytgjhikjnlcbmkaa

/- Ranges over functions: the iterator's side. Nothing of the program. -/
namespace Go.Proofs.Ytgjhikjnlcbmkaa
open Go.RowKit

def J2 (J Jx : Ghost) : Ghost := fun m K W => (m % 2 = 0 ∧ J (m / 2) K W) ∨ (m % 2 = 1 ∧ Jx (m / 2) K W)
theorem Stable.J2 {J Jx : Ghost} (h : Stable J) (h2 : Stable Jx) : Stable (Go.Proofs.Ytgjhikjnlcbmkaa.J2 J Jx) := fun k K w w' hj hs hb => hj.imp (fun ⟨a, b⟩ => ⟨a, h _ _ _ _ b hs hb⟩) (fun ⟨a, b⟩ => ⟨a, h2 _ _ _ _ b hs hb⟩)
theorem J2.even {J Jx : Ghost} {k : Nat} {K : Nat → Prop} {W : World} : J2 J Jx (2 * k) K W ↔ J k K W := by
  have h1 : 2 * k % 2 = 0 := by omega
  have h2 : 2 * k / 2 = k := by omega
  unfold J2
  rw [h1, h2]
  simp
def cntV (k : Nat) : AV := .d (.val (.int .i64 ((2 * k : Nat) : Int)))
def itJ (J : Ghost) (fz0 : Nat → Prop) (w1 : World) (ok1 ex1 : Nat → Prop) (k : Nat) (K : Nat → Prop) (W : World) : Prop := J k K W ∧ ∀ b, K b → b < w1.heap.size ∧ ¬ ex1 b ∧ (ok1 b → fz0 b)
@[reducible] def itc (J : Ghost) (sJ : Stable J) (fz0 : Nat → Prop) (nt : Nat) (w1 : World) (ok1 ex1 : Nat → Prop) : Ctx :=
  ⟨w1, ok1, nt, none, true, ex1, fun _ => undef, itJ J fz0 w1 ok1 ex1, fun k K w w' h h1 h2 h3 h4 h5 => ⟨sJ k K w w' h.1 ⟨h1, h2, h3, h4⟩ h5, h.2⟩⟩
@[reducible] def itF (w0 : World) (J : Ghost) (sJ : Stable J) (fz0 : Nat → Prop) (nt : Nat) : Fam := ⟨fun c => ∃ w1 ok1 ex1, c = itc J sJ fz0 nt w1 ok1 ex1 ∧ SameW w0 w1, nt, none, by rintro c ⟨_, _, _, rfl, _⟩; exact ⟨rfl, rfl⟩⟩

structure Itr (P : Program) (c : Fam) (l : Nat) (xs : List YA) (fin : Bool) : Prop where
  run : ∃ w0 J Jx sJ fz0 nt, c = itF w0 (J2 J Jx) sJ fz0 nt ∧ (fin = false → ∀ K W, ¬ J xs.length K W) ∧
    (∀ k K W d args (okA : Nat → Prop), xs[k]? = some d → J k K W → (∀ b, K b → b < W.heap.size) → d.rep K okA W args → (∀ b, okA b → b < W.heap.size ∧ (fz0 b ∨ ¬ K b)) →
      YieldAt Fence.wide 0 P l args.toArray W fun e W' => SameW W W' ∧ (Glob W → Glob W') ∧ ∃ K', (∀ b, K b → K' b) ∧ (∀ b, K' b → K b ∨ okA b ∨ W.heap.size ≤ b) ∧ (∀ b, K' b → b < W'.heap.size) ∧ (∀ b, b < W.heap.size → (fz0 b ∨ ¬ K b) → ¬ d.shows args b → W'.heap[b]? = W.heap[b]?) ∧
        (∀ ty cells n sz g cap, d = .sl ty cells n sz → args = [.slice (some ⟨g, 0, none⟩) n cap] → BlkAt (fun _ => False) W' (g, cap * sz) ⟨ty, cells⟩) ∧
        ((e = .returned (.bool true) ∧ J (k + 1) K' W') ∨ (e = .returned (.bool false) ∧ Jx (k + 1) K' W')))

inductive YV (t : AS) (args : List Operand) : YA → Prop
  | gv {ds} (h : viewD t args = some ds) (hf : DV.flatL ds = true) : YV t args (.gv ds)
  | sl {x nm n sz ty cells} (ha : args = [x]) (h : t.ev x = .lsl nm 0 n sz) (hm : t.mem nm = some ⟨ty, cells⟩) (hf : DV.flatL cells = true) : YV t args (.sl ty cells n sz)

section
variable {P : Program} {ops : Array Oper} {Q : Exit → Act → World → Prop} {c : Ctx}
theorem runT_on : ∀ (l : List Oper) (is is' : List Nat) (s : AS) (K : List Rec → AS → Prop), (∀ k, k < l.length → is[k]?.bind (ops[·]?) = l[k]?) → is.length = l.length → (∀ o ∈ l, opOk c o) →
    RunT P ops l s K → ∀ (φ : Nat → Nat × Nat) (a : Act) (w : World), R c s φ a w → (∀ rs t φ' a' w', K rs t → R c t φ' a' w' → wpOpsIn (fz c.rd) 0 P ops Q is' a' w') → wpOpsIn (fz c.rd) 0 P ops Q (is ++ is') a w := by
  intro l
  induction l with
  | nil =>
    intro is is' s K hl hlen hd hrun φ a w hR hQ
    have : is = [] := List.eq_nil_of_length_eq_zero hlen
    subst this
    exact hQ [] s φ a w hrun hR
  | cons o l ih =>
    intro is is' s K hl hlen hd hrun φ a w hR hQ
    cases is with
    | nil => simp at hlen
    | cons i is =>
      have hi : ops[i]? = some o := by simpa using hl 0 (by simp)
      rw [List.cons_append, wpOpsIn_cons]
      obtain ⟨e, rd, hs, hr⟩ := hrun
      refine hs.wpOp hi hR (fun x _ => ge_refl _) (fun t b _ => ge_refl _) (fun n _ => rfl) (Lk.refl _) (hd o (by simp)) fun φ' a' w' hR' => ?_
      exact ih is is' _ _ (fun k hk => by simpa using hl (k + 1) (by simp; omega)) (by simpa using hlen) (fun o ho => hd o (by simp [ho])) hr φ' a' w' hR' fun rs t φ' a' w' hk h => hQ (⟨e, rd, tchOf o s⟩ :: rs) t φ' a' w' hk h
end

@[reducible] def entryY (bs : List DV) (l : Nat) (caps : List DV) : AS := ⟨upd (entry (bs ++ .val (.func (.yield l) #[] #[]) :: caps)).fr VG (cntV 0), fun _ => none⟩

structure AWpL (P : Program) (c : Fam) (body : Code) (Q : Exit → AS → Prop) (s : AS) : Prop where
  run : ∀ φ a w, RF c s φ a w → ∀ (b : Frame) (k : List Item) (cs : List Frame), b.roundOf = (fz c.rd).round → (fz c.rd).fn b.fn → (fz c.rd).room (cs.length + 1 + 0) → ∃ e a' w', (∃ t φ, Q e t ∧ RF c t φ a' w') ∧ ArrivesIn (Machine.fenced P (fz c.rd)) P (lone (b.atR a (.code body :: .inLoop body :: k)) cs w) b k cs e a' w'
theorem awp_loopU {P : Program} {c : Fam} {Q : Exit → AS → Prop} {s : AS} {body : Code} (h : AWpL P c body Q s) : AWp P c (.loop body) Q s := ⟨fun φ a w hR b k cs hro hb hr => by
  obtain ⟨e, a', w', hq, harr⟩ := h.run φ a w hR b k cs hro hb hr
  exact ⟨e, a', w', hq, .of_steps (.one (fenced_calm hb hr rfl) stepR_loop) harr⟩⟩
theorem awpL_step {P : Program} {c : Fam} {Q : Exit → AS → Prop} {s : AS} {body : Code} (h : AWp P c body (ASeq (AWpL P c body Q) Q) s) : AWpL P c body Q s := ⟨fun φ a w hR b k cs hro hb hr => by
  obtain ⟨e, a₁, w₁, ⟨t, φ₁, hq, hR₁⟩, harr⟩ := h.run φ a w hR b (.inLoop body :: k) cs hro hb hr
  cases e with
  | normal =>
    obtain ⟨e₂, a₂, w₂, hq₂, harr₂⟩ := AWpL.run hq φ₁ a₁ w₁ hR₁ b k cs hro hb hr
    exact ⟨e₂, a₂, w₂, hq₂, .of_steps (StepsIn.trans harr (.one (fenced_calm hb hr rfl) stepR_inLoop)) harr₂⟩
  | exit id => exact ⟨_, a₁, w₁, ⟨t, φ₁, hq, hR₁⟩, .pass (x := .inLoop body) rfl (fun _ _ => .inl (by simp)) harr⟩
  | goto l => exact ⟨_, a₁, w₁, ⟨t, φ₁, hq, hR₁⟩, .pass (x := .inLoop body) rfl (fun _ _ => .inl (by simp)) harr⟩
  | ret => exact ⟨_, a₁, w₁, ⟨t, φ₁, hq, hR₁⟩, .pass (x := .inLoop body) rfl (fun _ _ => .inl (by simp)) harr⟩
  | panic ch => exact ⟨_, a₁, w₁, ⟨t, φ₁, hq, hR₁⟩, .pass (x := .inLoop body) rfl (fun _ _ => .inl (by simp)) harr⟩
  | outgrown => exact ⟨_, a₁, w₁, ⟨t, φ₁, hq, hR₁⟩, .pass (x := .inLoop body) rfl (fun _ _ => .inl (by simp)) harr⟩⟩
section
variable {P : Program} {s : AS} {ty : TypeId} {ps : String} {af : Array Edge} {dst : Option Tmp} {t t' : TypeId} {x y : Operand}
end

end Go.Proofs.Ytgjhikjnlcbmkaa
