/- The layer: states, regions, programs, operations. -/
import Derived.WalkKit
import Derived.WalkSpells
import Derived.WalkLawsBesides
import Derived.Lib.Hide
import Derived.PlainAid
import Derived.Deep.AppendLies
import Derived.Maps.AppendAt
import Derived.OwnWalk
import Derived.Carry
import Derived.StillTailTactics
import Derived.BigQuiet
import Derived.Deep.QuietTactic
import Derived.Orders
import Derived.Shelf.Abstract
import Derived.OrdersIn
import Derived.RangeFuncLeaves
import Derived.RangeFuncNested
import Derived.Test.YtgjhikjnlcbmkaaGl
set_option linter.unusedVariables false
set_option linter.unusedSimpArgs false
/- Words for memory that all texts of this seat use: a slice that reads as a list of cells, small lemmas on lists and numbers. Nothing of the program. -/
namespace Go.Proofs.Ytgjhikjnlcbmkaa
open Go.RowKit

def At (w : World) (A : Option Addr) (cs : List Value) : Prop :=
  0 < cs.length → ∃ b o, A = some ⟨b, o, none⟩ ∧ b < w.heap.size ∧ ∀ j u, cs[j]? = some u → w.cell? ⟨b, o + j, none⟩ = some u

def ints (xs : List Int) : List Value := xs.map (Value.int .i64)

theorem ints_length (xs : List Int) : (ints xs).length = xs.length := by simp [ints]
theorem ints_get {xs : List Int} {k : Nat} (hk : k < xs.length) : (ints xs)[k]? = some (.int .i64 xs[k]) := by
  simp [ints, hk]

section
variable {w w' : World} {A : Option Addr} {cs : List Value}

theorem At.nil : At w A [] := fun h => absurd h (by simp)

theorem At.below (h : At w A cs) (hb : Below w.heap.size w w') : At w' A cs := fun hn => by
  obtain ⟨b, o, e, hlt, hc⟩ := h hn
  exact ⟨b, o, e, Nat.lt_of_lt_of_le hlt hb.size, fun j u hu => (hb.cell (p := ⟨b, o + j, none⟩) hlt).trans (hc j u hu)⟩

theorem At.int {xs : List Int} (h : At w A (ints xs)) {k : Nat} (hk : k < xs.length) :
    ∃ b o, A = some ⟨b, o, none⟩ ∧ b < w.heap.size ∧ w.cell? ⟨b, o + k, none⟩ = some (.int .i64 xs[k]) := by
  obtain ⟨b, o, e, hlt, hc⟩ := h (by rw [ints_length]; omega)
  exact ⟨b, o, e, hlt, hc k _ (ints_get hk)⟩

theorem At.new (w : World) (t : TypeId) (cs : List Value) : At (w.alloc (.cells cs.toArray t)) (some ⟨w.heap.size, 0, none⟩) cs := fun _ =>
  ⟨_, 0, rfl, by rw [World.size_alloc]; omega, fun j u hu => by
    rw [Nat.zero_add, cell_of_row _ _ _ _ _ (0, 0) (heap_alloc_new w _)]
    simpa using hu⟩

theorem At.of_own {base n : Nat} {e : TypeId} {size c : Nat} {v : Value} (h : w.ownsRow base e size v n cs) (hv : v = .slice A n c) : At w A cs := fun hn => by
  subst hv
  have h1 := h.1
  obtain ⟨g, cap, hv, _, hlt⟩ := World.ownsRow.form h (Nat.pos_of_ne_zero fun h0 => by rw [h0, Nat.zero_mul] at h1; omega)
  have hA : A = some ⟨g, 0, none⟩ := by injection hv
  subst hA
  refine ⟨_, 0, rfl, hlt, fun j u hu => ?_⟩
  rw [Nat.zero_add]
  have := h.cells (g := g) rfl j u hu
  unfold Addr.add at this
  split at this
  · rename_i e; subst e; exact this
  · simpa using this
end

theorem bcell {W w1 : World} (hb : Below W.heap.size W w1) : (∀ b o, b < W.heap.size → w1.cell? ⟨b, o, none⟩ = W.cell? ⟨b, o, none⟩) ∧ (∀ b o, b < W.heap.size → w1.frozen? ⟨b, o, none⟩ = W.frozen? ⟨b, o, none⟩) :=
  ⟨fun b o h => hb.cell (p := ⟨b, o, none⟩) h, fun b o h => hb.frozen (p := ⟨b, o, none⟩) h⟩

theorem below_drewN {B : Nat} {a w : World} (h : Below B a w) (n : Nat) : Below B a (w.drewN n) := ⟨h.os, h.tape, h.output, h.size, h.block⟩

def Sm (n : Int) : Prop := -9223372036854775807 ≤ n ∧ n ≤ 9223372036854775807

theorem gcd_step (u v : Int) : Int.gcd v (u.tmod v) = Int.gcd u v := by
  rw [Int.gcd_eq_natAbs_gcd_natAbs, Int.gcd_eq_natAbs_gcd_natAbs, Int.natAbs_tmod, Nat.gcd_comm u.natAbs]
  rw [Nat.gcd_comm, ← Nat.gcd_rec]

theorem tmod_lt (u v : Int) (h : v ≠ 0) : (u.tmod v).natAbs < v.natAbs := by
  rw [Int.natAbs_tmod]
  exact Nat.mod_lt _ (by omega)

def I64 (n : Int) : Prop := -9223372036854775808 ≤ n ∧ n ≤ 9223372036854775807

theorem Sm.i64 {n : Int} (h : Sm n) : I64 n := by obtain ⟨h1, h2⟩ := h; exact ⟨by omega, by omega⟩

def inR (n lo hi : Int) : Bool := decide (lo ≤ n) && decide (n ≤ hi)
theorem inR_true {n lo hi : Int} : inR n lo hi = true ↔ lo ≤ n ∧ n ≤ hi := by simp [inR]
theorem inR_false {n lo hi : Int} : inR n lo hi = false ↔ n < lo ∨ hi < n := by
  simp only [inR, Bool.and_eq_false_iff, decide_eq_false_iff_not]; omega

theorem ret_int {k : IntKind} {a b : Int} (h : a = b) : Ending.returned (.int k a) = .returned (.int k b) := by rw [h]

theorem at_add {w : World} {b o : Nat} {cs : List Value} (hc : ∀ j u, cs[j]? = some u → w.cell? ⟨b, o + j, none⟩ = some u) :
    ∀ j u, cs[j]? = some u → w.cell? ((⟨b, o, none⟩ : Addr).add j) = some u := by
  intro j u hu
  have := hc j u hu
  unfold Addr.add
  split
  · rename_i e; subst e; exact this
  · exact this

def Row (w : World) (g : Nat) (t : TypeId) (cs : List Value) : Prop := w.heap[g]? = some (.cells cs.toArray t (0, 0))
section
variable {w w' : World} {g : Nat} {t : TypeId} {cs : List Value}
theorem Row.lt (h : Row w g t cs) : g < w.heap.size := (Array.getElem?_eq_some_iff.1 h).1
theorem Row.cell (h : Row w g t cs) (i : Nat) : w.cell? ⟨g, i, none⟩ = cs[i]? := by
  rw [cell_of_row w g i _ t (0, 0) h]; simp
theorem Row.frozen (h : Row w g t cs) (i : Nat) : w.frozen? ⟨g, i, none⟩ = false := by
  unfold Row at h
  simp [World.frozen?, h]
theorem Row.new (w : World) (t : TypeId) (cs : List Value) : Row (w.alloc (.cells cs.toArray t)) w.heap.size t cs := heap_alloc_new w _
theorem Row.drewN (h : Row w g t cs) (n : Nat) : Row (w.drewN n) g t cs := h
theorem Row.drew (h : Row w g t cs) : Row w.drew g t cs := h
theorem Row.alloc (h : Row w g t cs) (o : Obj) : Row (w.alloc o) g t cs := (Below.heap_alloc w o g h.lt).trans h
theorem Row.below {B : Nat} (h : Row w g t cs) (hb : Below B w w') (hg : g < B) : Row w' g t cs := (hb.block g hg).trans h
theorem Row.set (h : Row w g t cs) (i : Nat) (u : Value) : Row (w.setCell ⟨g, i, none⟩ u) g t (cs.set i u) := by
  unfold Row at h ⊢
  simp [World.setCell, Array.getElem?_modify, h]
theorem Row.far (h : Row w g t cs) {p : Addr} (hp : g ≠ p.block) (u : Value) : Row (w.setCell p u) g t cs := (Below.heap_setCell w p u g hp).trans h
end

theorem Row.some {w : World} {g : Nat} {t : TypeId} {cs : List Value} (h : Row w g t cs) : ∀ o, o < cs.length → ∃ v, w.cell? ⟨g, o, none⟩ = some v := fun o ho => ⟨cs[o], by rw [h.cell]; exact List.getElem?_eq_getElem ho⟩

end Go.Proofs.Ytgjhikjnlcbmkaa

/- Abstract values: what a value of the machine says, whatever its addresses are. Nothing of the program. -/
namespace Go.Proofs.Ytgjhikjnlcbmkaa
open Go.RowKit

inductive DV where
  | any
  | val (v : Value)
  | agg (cs : List DV)
  | tuple (cs : List DV)
  | slice (n : Nat) (cs : List DV)
  | ref (cs : List DV)
  | fn (f : Fn) (first caps : List DV)

def CellsAt (w : World) (b o : Nat) (vs : List Value) : Prop := ∀ j u, vs[j]? = some u → w.cell? ⟨b, o + j, none⟩ = some u
abbrev Ones (vs : List Value) : Prop := ∀ u ∈ vs, u.oneCell' = true

mutual
def DV.rep (ok : Nat → Prop) (w : World) : DV → Value → Prop
  | .any, _ => True
  | .val u, v => v = u
  | .agg cs, v => ∃ vs : List Value, v = .agg vs.toArray ∧ Ones vs ∧ DV.repL ok w cs vs
  | .tuple cs, v => ∃ vs : List Value, v = .tuple vs.toArray ∧ DV.repL ok w cs vs
  | .slice n cs, v => ∃ A cap, v = .slice A n cap ∧ n ≤ cap ∧ cap ≤ maxLen ∧ (cs ≠ [] → ∃ b o vs, A = some ⟨b, o, none⟩ ∧ ok b ∧ b < w.heap.size ∧ CellsAt w b o vs ∧ Ones vs ∧ DV.repL ok w cs vs)
  | .ref cs, v => ∃ b o vs, v = .pointer (some ⟨b, o, none⟩) ∧ ok b ∧ b < w.heap.size ∧ CellsAt w b o vs ∧ Ones vs ∧ DV.repL ok w cs vs
  | .fn f fi ca, v => ∃ vs us : List Value, v = .func f vs.toArray us.toArray ∧ DV.repL ok w fi vs ∧ DV.repL ok w ca us
def DV.repL (ok : Nat → Prop) (w : World) : List DV → List Value → Prop
  | [], vs => vs = []
  | c :: cs, vs => ∃ u us, vs = u :: us ∧ DV.rep ok w c u ∧ DV.repL ok w cs us
end

section
variable {ok ok' : Nat → Prop} {w w' : World}

structure Keeps (ok : Nat → Prop) (w : World) (ok' : Nat → Prop) (w' : World) : Prop where
  oks : ∀ b, ok b → b < w.heap.size → ok' b
  size : w.heap.size ≤ w'.heap.size
  cell : ∀ b o u, ok b → b < w.heap.size → w.cell? ⟨b, o, none⟩ = some u → w'.cell? ⟨b, o, none⟩ = some u

theorem CellsAt.keeps (h : Keeps ok w ok' w') {b o : Nat} {vs : List Value} (hb : ok b) (hl : b < w.heap.size) (hc : CellsAt w b o vs) : CellsAt w' b o vs :=
  fun j u hj => h.cell _ _ _ hb hl (hc j u hj)

mutual
theorem DV.rep_keeps (h : Keeps ok w ok' w') : ∀ (x : DV) (v : Value), x.rep ok w v → x.rep ok' w' v
  | .any, v, _ => by rw [DV.rep]; trivial
  | .val u, v, hx => by rw [DV.rep] at hx ⊢; exact hx
  | .agg cs, v, hx => by
    rw [DV.rep] at hx ⊢
    obtain ⟨vs, e, h1, h2⟩ := hx
    exact ⟨vs, e, h1, DV.repL_keeps h cs vs h2⟩
  | .tuple cs, v, hx => by
    rw [DV.rep] at hx ⊢
    obtain ⟨vs, e, h2⟩ := hx
    exact ⟨vs, e, DV.repL_keeps h cs vs h2⟩
  | .slice n cs, v, hx => by
    rw [DV.rep] at hx ⊢
    obtain ⟨A, cap, e, h1, h2, h3⟩ := hx
    refine ⟨A, cap, e, h1, h2, fun hne => ?_⟩
    obtain ⟨b, o, vs, e1, hb, hl, hc, ho, hr⟩ := h3 hne
    exact ⟨b, o, vs, e1, h.oks b hb hl, Nat.lt_of_lt_of_le hl h.size, hc.keeps h hb hl, ho, DV.repL_keeps h cs vs hr⟩
  | .ref cs, v, hx => by
    rw [DV.rep] at hx ⊢
    obtain ⟨b, o, vs, e1, hb, hl, hc, ho, hr⟩ := hx
    exact ⟨b, o, vs, e1, h.oks b hb hl, Nat.lt_of_lt_of_le hl h.size, hc.keeps h hb hl, ho, DV.repL_keeps h cs vs hr⟩
  | .fn f fi ca, v, hx => by
    rw [DV.rep] at hx ⊢
    obtain ⟨vs, us, e, h1, h2⟩ := hx
    exact ⟨vs, us, e, DV.repL_keeps h fi vs h1, DV.repL_keeps h ca us h2⟩
theorem DV.repL_keeps (h : Keeps ok w ok' w') : ∀ (xs : List DV) (vs : List Value), DV.repL ok w xs vs → DV.repL ok' w' xs vs
  | [], vs, hx => by rw [DV.repL] at hx ⊢; exact hx
  | c :: cs, vs, hx => by
    rw [DV.repL] at hx ⊢
    obtain ⟨u, us, e, h1, h2⟩ := hx
    exact ⟨u, us, e, DV.rep_keeps h c u h1, DV.repL_keeps h cs us h2⟩
end

theorem repL_nil {vs : List Value} : DV.repL ok w [] vs ↔ vs = [] := by rw [DV.repL]
theorem repL_cons {c : DV} {cs : List DV} {vs : List Value} : DV.repL ok w (c :: cs) vs ↔ ∃ u us, vs = u :: us ∧ c.rep ok w u ∧ DV.repL ok w cs us := by rw [DV.repL]
theorem repL_cons' {c : DV} {cs : List DV} {u : Value} {us : List Value} : DV.repL ok w (c :: cs) (u :: us) ↔ c.rep ok w u ∧ DV.repL ok w cs us := by
  rw [repL_cons]
  exact ⟨fun ⟨_, _, e, h1, h2⟩ => by cases e; exact ⟨h1, h2⟩, fun h => ⟨u, us, rfl, h.1, h.2⟩⟩
theorem rep_val {u v : Value} : (DV.val u).rep ok w v ↔ v = u := by rw [DV.rep]

theorem repL_length {xs : List DV} {vs : List Value} (h : DV.repL ok w xs vs) : vs.length = xs.length := by
  induction xs generalizing vs with
  | nil => rw [repL_nil] at h; simp [h]
  | cons c cs ih => obtain ⟨u, us, rfl, _, h2⟩ := repL_cons.1 h; simp [ih h2]

theorem repL_get {xs : List DV} {vs : List Value} (h : DV.repL ok w xs vs) {i : Nat} {c : DV} (hi : xs[i]? = some c) : ∃ u, vs[i]? = some u ∧ c.rep ok w u := by
  induction xs generalizing vs i with
  | nil => simp at hi
  | cons x cs ih =>
    obtain ⟨u, us, rfl, h1, h2⟩ := repL_cons.1 h
    cases i with
    | zero => simp at hi; subst hi; exact ⟨u, rfl, h1⟩
    | succ i => simp at hi ⊢; exact ih h2 hi

theorem repL_append {xs ys : List DV} {vs us : List Value} (h : DV.repL ok w xs vs) (h2 : DV.repL ok w ys us) : DV.repL ok w (xs ++ ys) (vs ++ us) := by
  induction xs generalizing vs with
  | nil => rw [repL_nil] at h; simpa [h] using h2
  | cons c cs ih => obtain ⟨u, ws, rfl, h1, h3⟩ := repL_cons.1 h; exact repL_cons'.2 ⟨h1, ih h3⟩

theorem repL_take {xs : List DV} {vs : List Value} (h : DV.repL ok w xs vs) (n : Nat) : DV.repL ok w (xs.take n) (vs.take n) := by
  induction xs generalizing vs n with
  | nil => rw [repL_nil] at h; simp [h, repL_nil]
  | cons c cs ih =>
    obtain ⟨u, ws, rfl, h1, h3⟩ := repL_cons.1 h
    cases n with
    | zero => simp [repL_nil]
    | succ n => simp only [List.take_succ_cons]; exact repL_cons'.2 ⟨h1, ih h3 n⟩

theorem repL_drop {xs : List DV} {vs : List Value} (h : DV.repL ok w xs vs) (n : Nat) : DV.repL ok w (xs.drop n) (vs.drop n) := by
  induction xs generalizing vs n with
  | nil => rw [repL_nil] at h; simp [h, repL_nil]
  | cons c cs ih =>
    obtain ⟨u, ws, rfl, h1, h3⟩ := repL_cons.1 h
    cases n with
    | zero => exact repL_cons'.2 ⟨h1, h3⟩
    | succ n => simp only [List.drop_succ_cons]; exact ih h3 n

theorem repL_vals (vs : List Value) : DV.repL ok w (vs.map DV.val) vs := by
  induction vs with
  | nil => simp [repL_nil]
  | cons v vs ih => exact repL_cons'.2 ⟨rep_val.2 rfl, ih⟩
theorem repL_vals_eq {us vs : List Value} (h : DV.repL ok w (us.map DV.val) vs) : vs = us := by
  induction us generalizing vs with
  | nil => simpa [repL_nil] using h
  | cons u us ih => obtain ⟨x, xs, rfl, h1, h2⟩ := repL_cons.1 h; rw [rep_val.1 h1, ih h2]
end

inductive AV where
  | d (x : DV)
  | ptr (nm off : Nat)
  | lsl (nm off len sz : Nat)
  | dep (n m : Nat) (f : Nat × Nat → Nat × Nat → DV)

def AV.rep (ok : Nat → Prop) (φ : Nat → Nat × Nat) (w : World) : AV → Value → Prop
  | .d x, v => x.rep ok w v
  | .ptr nm off, v => v = .pointer (some ⟨(φ nm).1, off, none⟩)
  | .lsl nm off len sz, v => ∃ cap, v = .slice (some ⟨(φ nm).1, off, none⟩) len cap ∧ len ≤ cap ∧ cap ≤ maxLen ∧ off + cap * sz = (φ nm).2
  | .dep n m f, v => (f (φ n) (φ m)).rep ok w v

def AV.kill (n : Nat) : AV → AV
  | .d x => .d x
  | .ptr nm off => bif nm == n then .d .any else .ptr nm off
  | .lsl nm off len sz => bif nm == n then .d .any else .lsl nm off len sz
  | .dep a b f => bif a == n || b == n then .d .any else .dep a b f

theorem AV.rep_keeps {ok ok' : Nat → Prop} {w w' : World} (h : Keeps ok w ok' w') {φ : Nat → Nat × Nat} {x : AV} {v : Value} (hx : x.rep ok φ w v) : x.rep ok' φ w' v := by
  cases x with
  | d x => exact DV.rep_keeps h x v hx
  | ptr nm off => exact hx
  | lsl nm off len sz => exact hx
  | dep n m f => exact DV.rep_keeps h _ v hx

theorem AV.rep_kill {ok : Nat → Prop} {w : World} {φ φ' : Nat → Nat × Nat} {n : Nat} (he : ∀ m, m ≠ n → φ' m = φ m) {x : AV} {v : Value} (hx : x.rep ok φ w v) : (x.kill n).rep ok φ' w v := by
  cases x with
  | d x => exact hx
  | ptr nm off =>
    cases h : nm == n
    · have : nm ≠ n := by simpa using h
      simp only [AV.kill, h, cond_false]
      show v = _
      rw [he nm this]; exact hx
    · simp only [AV.kill, h, cond_true, AV.rep, DV.rep]
  | lsl nm off len sz =>
    cases h : nm == n
    · have : nm ≠ n := by simpa using h
      simp only [AV.kill, h, cond_false]
      show ∃ cap, _
      rw [he nm this]; exact hx
    · simp only [AV.kill, h, cond_true, AV.rep, DV.rep]
  | dep a b f =>
    cases h : (a == n || b == n)
    · rw [Bool.or_eq_false_iff] at h
      have h1 : a ≠ n := by simpa using h.1
      have h2 : b ≠ n := by simpa using h.2
      simp only [AV.kill, h.1, h.2, Bool.or_false, cond_false]
      show (f (φ' a) (φ' b)).rep ok w v
      rw [he a h1, he b h2]; exact hx
    · simp only [AV.kill, h, cond_true, AV.rep, DV.rep]

structure Blk where
  ty : TypeId
  cells : List DV

structure AS where
  fr : Nat → AV
  mem : Nat → Option Blk

def upd {α : Type} (f : Nat → α) (i : Nat) (v : α) : Nat → α := fun j => bif Nat.beq j i then v else f j
theorem upd_same {α : Type} (f : Nat → α) (i : Nat) (v : α) : upd f i v i = v := by simp [upd]
theorem upd_ne {α : Type} (f : Nat → α) {i j : Nat} (v : α) (h : j ≠ i) : upd f i v j = f j := by
  have : Nat.beq j i = false := by
    cases hb : Nat.beq j i
    · rfl
    · exact absurd (Nat.eq_of_beq_eq_true hb) h
  simp [upd, this]
abbrev VG : Nat := 999999
abbrev GH : Nat := 1000000
abbrev PN : Nat := 3000000
def encP (p : Nat × Nat) : Value := .slice (some ⟨p.1, 0, none⟩) 0 p.2
def AS.ev (s : AS) : Operand → AV
  | .tmp t => bif Nat.blt t VG then s.fr t else .d .any
  | .const v => .d (.val v)
  | .global _ => .d .any
  | .func f => .d (.val (.func (.func f) #[] #[]))

structure BelowX (ex : Nat → Prop) (w0 w : World) : Prop where
  os : w.os = w0.os
  tape : w.tape = w0.tape
  output : w.output = w0.output
  size : w0.heap.size ≤ w.heap.size
  block : ∀ k, k < w0.heap.size → ¬ ex k → w.heap[k]? = w0.heap[k]?
  gl : Glob w0 ∧ ∀ b, GBlk b → ¬ ex b
theorem BelowX.refl {ex : Nat → Prop} {w : World} (hg : Glob w) (he : ∀ b, GBlk b → ¬ ex b) : BelowX ex w w := ⟨rfl, rfl, rfl, Nat.le_refl _, fun _ _ _ => rfl, hg, he⟩
theorem BelowX.glob {ex : Nat → Prop} {w0 w : World} (h : BelowX ex w0 w) : Glob w := h.gl.1.keeps fun b hb => h.block b (h.gl.1.lt hb) (h.gl.2 b hb)
theorem BelowX.step {ex : Nat → Prop} {w0 w w' : World} (h : BelowX ex w0 w) (hb : Below w.heap.size w w') : BelowX ex w0 w' :=
  ⟨hb.os.trans h.os, hb.tape.trans h.tape, hb.output.trans h.output, Nat.le_trans h.size hb.size, fun k hk he => (hb.block k (Nat.lt_of_lt_of_le hk h.size)).trans (h.block k hk he), h.gl⟩
theorem BelowX.all {ex : Nat → Prop} {w0 w : World} (h : BelowX ex w0 w) (he : ∀ b, ¬ ex b) : Below w0.heap.size w0 w := ⟨h.os, h.tape, h.output, h.size, fun k hk => h.block k hk (he k)⟩

structure Ctx where
  w0 : World
  ok : Nat → Prop
  nt : Nat
  rd : Option Nat
  it : Bool
  ex : Nat → Prop
  gv : Nat → Value
  J : Nat → (Nat → Prop) → World → Prop
  st : ∀ k K (w w' : World), J k K w → w'.os = w.os → w'.tape = w.tape → w'.output = w.output → w.heap.size ≤ w'.heap.size → (∀ b, K b → w'.heap[b]? = w.heap[b]?) → J k K w'
@[reducible] def kx (w0 : World) (ok : Nat → Prop) (nt : Nat) : Ctx := ⟨w0, ok, nt, none, false, fun _ => False, fun _ => undef, fun _ _ _ => True, fun _ _ _ _ _ _ _ _ _ _ => trivial⟩

def Ctx.mine (c : Ctx) (b : Nat) : Prop := c.w0.heap.size ≤ b ∨ c.ex b
def okOf (c : Ctx) (φ : Nat → Nat × Nat) (s : AS) (b : Nat) : Prop := (b < c.w0.heap.size ∧ c.ok b ∧ ¬ c.ex b) ∨ (c.mine b ∧ ∀ nm, s.mem nm ≠ none → (φ nm).1 ≠ b)
def slotAt (c : Ctx) (a : Act) (φ : Nat → Nat × Nat) (i : Nat) : Value := bif Nat.blt i GH then a.tmps.getD i undef else bif Nat.blt i PN then c.gv (i - GH) else encP (φ i)
def MkB (c : Ctx) (D : Nat) : Prop := c.it = false ∧ c.w0.heap.size ≤ D
def Marks (c : Ctx) (ds : List Deferred) (w : World) : Prop := ∃ Ds : List Nat, ds = Ds.map (fun D => { target := .collected D, args := #[] }) ∧ Ds.Nodup ∧ ∀ D ∈ Ds, MkB c D ∧ w.heap[D]? = some (.deferred (some []))
theorem Marks.keeps {c : Ctx} {w w' : World} {ds : List Deferred} (h : Marks c ds w) (hk : ∀ D, MkB c D → w.heap[D]? = some (.deferred (some [])) → w'.heap[D]? = w.heap[D]?) : Marks c ds w' := by
  obtain ⟨Ds, h1, h2, h3⟩ := h
  exact ⟨Ds, h1, h2, fun D hD => ⟨(h3 D hD).1, (hk D (h3 D hD).1 (h3 D hD).2).trans (h3 D hD).2⟩⟩

def BlkAt (ok : Nat → Prop) (w : World) (p : Nat × Nat) (blk : Blk) : Prop :=
  ∃ vs extra : List Value, w.heap[p.1]? = some (.cells (vs ++ extra).toArray blk.ty (0, 0)) ∧ (vs ++ extra).length = p.2 ∧ Ones vs ∧ DV.repL ok w blk.cells vs

structure R (c : Ctx) (s : AS) (φ : Nat → Nat × Nat) (a : Act) (w : World) : Prop where
  below : BelowX c.ex c.w0 w
  defers : Marks c a.defers w
  size : a.tmps.size = c.nt
  ntv : c.nt ≤ VG
  fr : ∀ i, i ≠ VG → (s.fr i).rep (okOf c φ s) φ w (slotAt c a φ i)
  own : ∀ nm blk, s.mem nm = some blk → c.mine (φ nm).1
  mem : ∀ nm blk, s.mem nm = some blk → BlkAt (okOf c φ s) w (φ nm) blk
  inj : ∀ n m, s.mem n ≠ none → s.mem m ≠ none → n ≠ m → (φ n).1 ≠ (φ m).1
  gh : ∀ k : Nat, s.fr VG = .d (.val (.int .i64 k)) → ∃ K, c.J k K w ∧ (∀ nm, s.mem nm ≠ none → ¬ K (φ nm).1) ∧ (∀ b, K b → b < w.heap.size) ∧ ∀ D, ({ target := .collected D, args := #[] } : Deferred) ∈ a.defers → ¬ K D

theorem slotAt_lt {c : Ctx} {a : Act} {φ : Nat → Nat × Nat} {t : Nat} (h : t < VG) : slotAt c a φ t = a.tmps.getD t undef := by
  unfold slotAt
  have h1 : t + 1 ≤ GH := Nat.le_trans h (Nat.le_succ VG)
  have h2 : Nat.blt t GH = true := Nat.ble_eq_true_of_le h1
  rw [h2]; rfl
theorem R.ev {c : Ctx} {s : AS} {φ : Nat → Nat × Nat} {a : Act} {w : World} (h : R c s φ a w) (x : Operand) : (s.ev x).rep (okOf c φ s) φ w (a.eval x) := by
  cases x with
  | tmp t =>
    show (bif Nat.blt t VG then s.fr t else .d .any).rep _ φ w (a.tmps.getD t undef)
    cases hb : Nat.blt t VG
    · simp only [cond_false, AV.rep, DV.rep]
    · have ht : t < VG := Nat.le_of_ble_eq_true hb
      have := h.fr t (Nat.ne_of_lt ht)
      rw [slotAt_lt ht] at this
      exact this
  | const v => show DV.rep (okOf c φ s) w (.val v) v; exact rep_val.2 rfl
  | global g => simp only [AS.ev, AV.rep, DV.rep]
  | func f => show DV.rep (okOf c φ s) w (.val (.func (.func f) #[] #[])) _; exact rep_val.2 rfl
theorem R.put_ne {c : Ctx} {s : AS} {φ : Nat → Nat × Nat} {a : Act} {w : World} (h : R c s φ a w) {d : Nat} (hd : d < c.nt) : d < VG := Nat.lt_of_lt_of_le hd h.ntv
theorem R.mark_ne {c : Ctx} {s : AS} {φ : Nat → Nat × Nat} {a : Act} {w : World} (h : R c s φ a w) {nm : Nat} {blk : Blk} (hn : s.mem nm = some blk) {D : Nat} (hD : w.heap[D]? = some (.deferred (some []))) : D ≠ (φ nm).1 := by
  obtain ⟨vs, ex, hh, _⟩ := h.mem nm blk hn
  rintro rfl
  rw [hD] at hh; cases hh

theorem R.lt {c : Ctx} {s : AS} {φ : Nat → Nat × Nat} {a : Act} {w : World} (h : R c s φ a w) {nm : Nat} (hn : s.mem nm ≠ none) : (φ nm).1 < w.heap.size := by
  cases hb : s.mem nm with
  | none => exact absurd hb hn
  | some blk =>
    obtain ⟨vs, ex, h1, _⟩ := h.mem nm blk hb
    exact (Array.getElem?_eq_some_iff.1 h1).1

end Go.Proofs.Ytgjhikjnlcbmkaa

/- Abstract states: what keeps the relation to the machine's state. Nothing of the program. -/
namespace Go.Proofs.Ytgjhikjnlcbmkaa
open Go.RowKit

def AS.put (s : AS) (dst : Option Tmp) (r : AV) : AS :=
  match dst with
  | some d => ⟨upd s.fr d r, s.mem⟩
  | none => s

def dstOk (c : Ctx) (dst : Option Tmp) : Prop := ∀ d, dst = some d → d < c.nt

section
variable {c : Ctx} {s : AS} {φ : Nat → Nat × Nat} {a : Act} {w w' : World}

theorem getD_put (a : Act) {d : Nat} (hd : d < a.tmps.size) (v : Value) (i : Nat) : (a.put (some d) v).tmps.getD i undef = if i = d then v else a.tmps.getD i undef := by
  simp only [Act.put, Array.getD_eq_getD_getElem?]
  by_cases h : i = d
  · subst h; simp [hd]
  · rw [Array.getElem?_setIfInBounds_ne (Ne.symm h), if_neg h]

theorem slotAt_put (c : Ctx) (a : Act) (φ : Nat → Nat × Nat) {d : Nat} (hd : d < a.tmps.size) (hv : d < VG) (v : Value) (i : Nat) : slotAt c (a.put (some d) v) φ i = if i = d then v else slotAt c a φ i := by
  unfold slotAt
  cases hb : Nat.blt i GH
  · have hne : i ≠ d := by
      rintro rfl
      have : Nat.blt i GH = true := by
        have h1 : i + 1 ≤ GH := Nat.le_trans hv (Nat.le_succ VG)
        exact Nat.ble_eq_true_of_le h1
      rw [this] at hb; cases hb
    rw [if_neg hne]; rfl
  · show (a.put (some d) v).tmps.getD i undef = if i = d then v else a.tmps.getD i undef
    exact getD_put a hd v i
theorem slotAt_upd (c : Ctx) (a : Act) (φ : Nat → Nat × Nat) {d : Nat} (hv : d < VG) (p : Nat × Nat) (i : Nat) : slotAt c a (upd φ d p) i = slotAt c a φ i := by
  unfold slotAt
  cases hb : Nat.blt i GH
  · cases hb2 : Nat.blt i PN
    · have hne : i ≠ d := by
        rintro rfl
        have : Nat.blt i PN = true := Nat.ble_eq_true_of_le (show i + 1 ≤ PN by show i + 1 ≤ 3000000; have : i < 999999 := hv; omega)
        rw [this] at hb2; cases hb2
      simp only [cond_false]
      rw [upd_ne _ _ hne]
    · rfl
  · rfl
theorem kill_val {x : AV} {n : Nat} {v : Value} (h : x.kill n = .d (.val v)) : x = .d (.val v) := by
  cases x with
  | d x => exact h
  | ptr nm off => cases e : nm == n <;> simp [AV.kill, e] at h
  | lsl nm off len sz => cases e : nm == n <;> simp [AV.kill, e] at h
  | dep a b f => cases e : (a == n || b == n) <;> simp only [AV.kill, e, cond_true, cond_false] at h <;> cases h
theorem R.gh_step (h : R c s φ a w) {s' : AS} {φ' : Nat → Nat × Nat} (hv : ∀ v : Value, s'.fr VG = .d (.val v) → s.fr VG = .d (.val v)) (ho : w'.os = w.os) (ht : w'.tape = w.tape) (hou : w'.output = w.output) (hs : w.heap.size ≤ w'.heap.size)
    (hb : ∀ b, b < w.heap.size → (∀ nm, s.mem nm ≠ none → (φ nm).1 ≠ b) → w'.heap[b]? = w.heap[b]?) (hn : ∀ nm, s'.mem nm ≠ none → (∃ m, s.mem m ≠ none ∧ (φ' nm).1 = (φ m).1) ∨ w.heap.size ≤ (φ' nm).1) :
    ∀ k : Nat, s'.fr VG = .d (.val (.int .i64 k)) → ∃ K, c.J k K w' ∧ (∀ nm, s'.mem nm ≠ none → ¬ K (φ' nm).1) ∧ (∀ b, K b → b < w'.heap.size) ∧ ∀ D, ({ target := .collected D, args := #[] } : Deferred) ∈ a.defers → ¬ K D := by
  intro k hk
  obtain ⟨K, h1, h2, h3, h4⟩ := h.gh k (hv _ hk)
  refine ⟨K, c.st k K w w' h1 ho ht hou hs fun b hb1 => hb b (h3 b hb1) fun nm hnm e => h2 nm hnm (e ▸ hb1), fun nm hnm hK => ?_, fun b hb1 => Nat.lt_of_lt_of_le (h3 b hb1) hs, h4⟩
  rcases hn nm hnm with ⟨m, hm, e⟩ | e
  · exact h2 m hm (e ▸ hK)
  · have := h3 _ hK; omega
theorem R.put (h : R c s φ a w) {dst : Option Tmp} (hd : dstOk c dst) {r : AV} {v : Value} (hr : r.rep (okOf c φ s) φ w v) : R c (s.put dst r) φ (a.put dst v) w := by
  cases dst with
  | none => exact h
  | some d =>
    have hlt : d < a.tmps.size := by rw [h.size]; exact hd d rfl
    have hv := h.put_ne (hd d rfl)
    refine ⟨h.below, h.defers, ?_, h.ntv, fun i hi => ?_, h.own, h.mem, h.inj, fun k hk => h.gh k ?_⟩
    · simp only [Act.put, Array.size_setIfInBounds]; exact h.size
    · rw [slotAt_put c a φ hlt hv]
      show (upd s.fr d r i).rep (okOf c φ s) φ w _
      by_cases hi2 : i = d
      · subst hi2; rw [upd_same, if_pos rfl]; exact hr
      · rw [upd_ne _ _ hi2, if_neg hi2]; exact h.fr i hi
    · have e : upd s.fr d r VG = s.fr VG := upd_ne _ _ (Nat.ne_of_gt hv)
      rw [← e]; exact hk

theorem R.keeps (h : R c s φ a w) (hb : Below w.heap.size w w') : Keeps (okOf c φ s) w (okOf c φ s) w' :=
  ⟨fun _ hk _ => hk, hb.size, fun b o u _ hl hc => (hb.cell (p := ⟨b, o, none⟩) hl).trans hc⟩

theorem BlkAt.keeps {ok ok' : Nat → Prop} {p : Nat × Nat} {blk : Blk} (hk : Keeps ok w ok' w') (hp : w'.heap[p.1]? = w.heap[p.1]?) (h : BlkAt ok w p blk) : BlkAt ok' w' p blk := by
  obtain ⟨vs, ex, h1, h2, h3, h4⟩ := h
  exact ⟨vs, ex, hp.trans h1, h2, h3, DV.repL_keeps hk _ _ h4⟩

theorem R.below' (h : R c s φ a w) (hb : Below w.heap.size w w') : R c s φ a w' := by
  have hk := h.keeps hb
  refine ⟨h.below.step hb, h.defers.keeps fun D _ h2 => hb.block D (Array.getElem?_eq_some_iff.1 h2).1, h.size, h.ntv, fun i hi => AV.rep_keeps hk (h.fr i hi), h.own, fun nm blk hn => ?_, h.inj,
    h.gh_step (fun _ h => h) hb.os hb.tape hb.output hb.size (fun b hl _ => hb.block b hl) fun nm hn => .inl ⟨nm, hn, rfl⟩⟩
  exact (h.mem nm blk hn).keeps hk (hb.block _ (h.lt (by rw [hn]; simp)))

theorem Below.drew1 (w : World) : Below w.heap.size w w.drew := (Below.refl _ _).drew
theorem R.drew (h : R c s φ a w) : R c s φ a w.drew := h.below' (Below.drew1 w)

def AS.killAll (s : AS) (n : Nat) : Nat → AV := fun i => (s.fr i).kill n

def AS.newBlk (s : AS) (d : Nat) (blk : Blk) (r : AV) : AS := ⟨upd (s.killAll d) d r, upd s.mem d (some blk)⟩

def okNew (c : Ctx) (s : AS) (φ : Nat → Nat × Nat) (w : World) (g : Nat) (b : Nat) : Prop := (okOf c φ s b ∧ b < w.heap.size) ∨ (w.heap.size ≤ b ∧ b ≠ g)

theorem R.newBlk (h : R c s φ a w) (hb : Below w.heap.size w w') {d : Nat} (hd : d < c.nt) {g n : Nat} (hg : w.heap.size ≤ g) {blk : Blk} (hblk : BlkAt (okNew c s φ w g) w' (g, n) blk)
    {r : AV} {v : Value} (hv : r.rep (okOf c (upd φ d (g, n)) (s.newBlk d blk r)) (upd φ d (g, n)) w' v) :
    R c (s.newBlk d blk r) (upd φ d (g, n)) (a.put (some d) v) w' := by
  have hbs := h.below.size
  have hlt : d < a.tmps.size := by rw [h.size]; exact hd
  have hne : ∀ m, m ≠ d → upd φ d (g, n) m = φ m := fun m hm => upd_ne _ _ hm
  have hmem : ∀ m, m ≠ d → (s.newBlk d blk r).mem m = s.mem m := fun m hm => upd_ne _ _ hm
  have hoks : ∀ b, okNew c s φ w g b → okOf c (upd φ d (g, n)) (s.newBlk d blk r) b := by
    intro b hb1
    rcases hb1 with ⟨hb1 | ⟨hb1, hb2⟩, hl⟩ | ⟨hb1, hb2⟩
    · exact .inl hb1
    · refine .inr ⟨hb1, fun nm hnm => ?_⟩
      by_cases hn : nm = d
      · subst hn; rw [upd_same]; simp only; omega
      · rw [hne nm hn]
        exact hb2 nm (by rw [hmem nm hn] at hnm; exact hnm)
    · refine .inr ⟨.inl (by omega), fun nm hnm => ?_⟩
      by_cases hn : nm = d
      · subst hn; rw [upd_same]; exact fun e => hb2 e.symm
      · rw [hne nm hn]
        have := h.lt (nm := nm) (by rw [hmem nm hn] at hnm; exact hnm)
        omega
  have hk : Keeps (okOf c φ s) w (okOf c (upd φ d (g, n)) (s.newBlk d blk r)) w' :=
    ⟨fun b h1 h2 => hoks b (.inl ⟨h1, h2⟩), hb.size, fun b o u _ hl hc => (hb.cell (p := ⟨b, o, none⟩) hl).trans hc⟩
  have hk2 : Keeps (okNew c s φ w g) w' (okOf c (upd φ d (g, n)) (s.newBlk d blk r)) w' := ⟨fun b h1 _ => hoks b h1, Nat.le_refl _, fun _ _ _ _ _ hc => hc⟩
  have hv0 := h.put_ne hd
  refine ⟨h.below.step hb, h.defers.keeps fun D _ h2 => hb.block D (Array.getElem?_eq_some_iff.1 h2).1, ?_, h.ntv, fun i hiV => ?_, fun nm b hn => ?_, fun nm b hn => ?_, fun x y hx hy hxy => ?_, h.gh_step (fun v hk => ?_) hb.os hb.tape hb.output hb.size (fun b hl _ => hb.block b hl) fun nm hn => ?_⟩
  · simp only [Act.put, Array.size_setIfInBounds]; exact h.size
  · rw [slotAt_upd c _ φ hv0, slotAt_put c a φ hlt hv0]
    show (upd (s.killAll d) d r i).rep _ _ w' _
    by_cases hi : i = d
    · subst hi; rw [upd_same, if_pos rfl]; exact hv
    · rw [upd_ne _ _ hi, if_neg hi]
      exact AV.rep_keeps (Keeps.mk (fun _ hx _ => hx) (Nat.le_refl _) fun _ _ _ _ _ hc => hc) (AV.rep_kill hne (AV.rep_keeps hk (h.fr i hiV)))
  · by_cases hnd : nm = d
    · subst hnd; rw [upd_same]; exact .inl (Nat.le_trans hbs hg)
    · rw [hne nm hnd]; exact h.own nm b (by rw [← hmem nm hnd]; exact hn)
  · by_cases hnd : nm = d
    · subst hnd
      have : b = blk := by
        have e : (s.newBlk nm blk r).mem nm = some blk := upd_same _ _ _
        rw [e] at hn; exact (Option.some.inj hn).symm
      subst this
      rw [upd_same]
      exact hblk.keeps hk2 rfl
    · rw [hne nm hnd]
      have hn2 : s.mem nm = some b := by rw [← hmem nm hnd]; exact hn
      exact (h.mem nm b hn2).keeps hk (hb.block _ (h.lt (by rw [hn2]; simp)))
  · have key : ∀ z, z ≠ d → (s.newBlk d blk r).mem z ≠ none → (φ z).1 < w.heap.size := fun z hz hz2 => h.lt (by rw [hmem z hz] at hz2; exact hz2)
    by_cases hxd : x = d
    · subst hxd
      have hyd : y ≠ x := Ne.symm hxy
      rw [upd_same, hne y hyd]
      have := key y hyd hy
      simp only; omega
    · rw [hne x hxd]
      have hx2 := key x hxd hx
      by_cases hyd : y = d
      · subst hyd; rw [upd_same]; simp only; omega
      · rw [hne y hyd]
        exact h.inj x y (by rw [hmem x hxd] at hx; exact hx) (by rw [hmem y hyd] at hy; exact hy) hxy
  · have e : (s.newBlk d blk r).fr VG = (s.fr VG).kill d := upd_ne _ _ (Nat.ne_of_gt hv0)
    rw [e] at hk; exact kill_val hk
  · by_cases hnd : nm = d
    · subst hnd; rw [upd_same]; exact .inr hg
    · rw [hne nm hnd]; exact .inl ⟨nm, by rw [hmem nm hnd] at hn; exact hn, rfl⟩

theorem Keeps.refl (ok : Nat → Prop) (w : World) : Keeps ok w ok w := ⟨fun _ h _ => h, Nat.le_refl _, fun _ _ _ _ _ h => h⟩
theorem Keeps.wide {ok ok' : Nat → Prop} {w : World} (h : ∀ b, ok b → b < w.heap.size → ok' b) : Keeps ok w ok' w := ⟨h, Nat.le_refl _, fun _ _ _ _ _ h => h⟩

structure Turned (w w' : World) (g : Nat) : Prop where
  os : w'.os = w.os
  tape : w'.tape = w.tape
  output : w'.output = w.output
  size : w'.heap.size = w.heap.size
  block : ∀ k, k ≠ g → w'.heap[k]? = w.heap[k]?

theorem Turned.refl (w : World) (g : Nat) : Turned w w g := ⟨rfl, rfl, rfl, rfl, fun _ _ => rfl⟩
theorem Turned.trans {w w1 w2 : World} {g : Nat} (h : Turned w w1 g) (h2 : Turned w1 w2 g) : Turned w w2 g :=
  ⟨h2.os.trans h.os, h2.tape.trans h.tape, h2.output.trans h.output, h2.size.trans h.size, fun k hk => (h2.block k hk).trans (h.block k hk)⟩

def AS.setBlk (s : AS) (nm : Nat) (blk : Blk) : AS := ⟨s.fr, upd s.mem nm (some blk)⟩

theorem okOf_setBlk {nm : Nat} (hn : s.mem nm ≠ none) (blk : Blk) : okOf c φ (s.setBlk nm blk) = okOf c φ s := by
  funext b
  unfold okOf
  congr 1
  apply congrArg
  apply propext
  constructor
  · intro h n hn2
    by_cases e : n = nm
    · subst e; exact h n (by simp [AS.setBlk, upd_same])
    · exact h n (by simpa only [AS.setBlk, upd_ne _ _ e] using hn2)
  · intro h n hn2
    by_cases e : n = nm
    · subst e; exact h n hn
    · exact h n (by simpa only [AS.setBlk, upd_ne _ _ e] using hn2)

theorem R.store (h : R c s φ a w) {nm : Nat} {old blk : Blk} (hn : s.mem nm = some old) (ht : Turned w w' (φ nm).1) (hblk : BlkAt (okOf c φ s) w' (φ nm) blk) : R c (s.setBlk nm blk) φ a w' := by
  have hn0 : s.mem nm ≠ none := by rw [hn]; simp
  have hok := okOf_setBlk (c := c) (φ := φ) hn0 blk
  have hB := h.own nm old hn
  have hk : Keeps (okOf c φ s) w (okOf c φ s) w' := by
    refine ⟨fun _ h _ => h, by rw [ht.size]; exact Nat.le_refl _, fun b o u hb hl hc => ?_⟩
    have hne : b ≠ (φ nm).1 := by
      rcases hb with ⟨hb, _, he⟩ | ⟨_, hb⟩
      · rintro rfl
        rcases hB with hB | hB
        · omega
        · exact he hB
      · exact fun e => hb nm hn0 e.symm
    exact (World.cell?_of_block (a := ⟨b, o, none⟩) (ht.block b hne)).trans hc
  refine ⟨⟨ht.os.trans h.below.os, ht.tape.trans h.below.tape, ht.output.trans h.below.output, by rw [ht.size]; exact h.below.size, fun k hk he => (ht.block k (by
      rintro rfl
      rcases hB with hB | hB
      · omega
      · exact he hB)).trans (h.below.block k hk he), h.below.gl⟩, h.defers.keeps fun D _ h2 => ht.block D (h.mark_ne hn h2), h.size, h.ntv, fun i hi => ?_, fun n b hb => ?_, fun n b hb => ?_, fun x y hx hy => ?_,
    h.gh_step (fun _ h => h) ht.os ht.tape ht.output (by rw [ht.size]; exact Nat.le_refl _) (fun b _ hu => ht.block b (fun e => hu nm hn0 e.symm)) fun n hn2 => .inl ⟨n, ?_, rfl⟩⟩
  · rw [hok]; exact AV.rep_keeps hk (h.fr i hi)
  · by_cases e : n = nm
    · subst e; exact hB
    · exact h.own n b (by simpa only [AS.setBlk, upd_ne _ _ e] using hb)
  · rw [hok]
    by_cases e : n = nm
    · subst e
      have : b = blk := by simp only [AS.setBlk, upd_same] at hb; exact (Option.some.inj hb).symm
      subst this; exact hblk
    · have hb2 : s.mem n = some b := by simpa only [AS.setBlk, upd_ne _ _ e] using hb
      exact (h.mem n b hb2).keeps hk (ht.block _ (h.inj n nm (by rw [hb2]; simp) hn0 e))
  · have key : ∀ z, (s.setBlk nm blk).mem z ≠ none → s.mem z ≠ none := fun z hz => by
      by_cases e : z = nm
      · subst e; exact hn0
      · simpa only [AS.setBlk, upd_ne _ _ e] using hz
    exact h.inj x y (key x hx) (key y hy)
  · by_cases e : n = nm
    · subst e; exact hn0
    · simpa only [AS.setBlk, upd_ne _ _ e] using hn2

def AV.frz (nm : Nat) (cells : List DV) : AV → AV
  | .d x => .d x
  | .ptr n off => bif n == nm then .d (.ref (cells.drop off)) else .ptr n off
  | .lsl n off len sz => bif n == nm then .d (.slice len ((cells.drop off).take (len * sz))) else .lsl n off len sz
  | .dep a b f => bif a == nm || b == nm then .d .any else .dep a b f

def AS.freeze (s : AS) (nm : Nat) (cells : List DV) : AS := ⟨fun i => (s.fr i).frz nm cells, upd s.mem nm none⟩

theorem frz_val {x : AV} {n : Nat} {cells : List DV} {v : Value} (h : x.frz n cells = .d (.val v)) : x = .d (.val v) := by
  cases x with
  | d x => exact h
  | ptr nm off => cases e : nm == n <;> simp [AV.frz, e] at h
  | lsl nm off len sz => cases e : nm == n <;> simp [AV.frz, e] at h
  | dep a b f => cases e : (a == n || b == n) <;> simp only [AV.frz, e, cond_true, cond_false] at h <;> cases h
theorem okOf_freeze (nm : Nat) (cells : List DV) {b : Nat} (hb : okOf c φ s b) : okOf c φ (s.freeze nm cells) b := by
  rcases hb with hb | ⟨hb, hb2⟩
  · exact .inl hb
  · refine .inr ⟨hb, fun n hn => hb2 n ?_⟩
    by_cases e : n = nm
    · subst e; simp [AS.freeze, upd_same] at hn
    · simpa only [AS.freeze, upd_ne _ _ e] using hn

theorem cellsAt_of_heap {g : Nat} {vs ex : List Value} {ty : TypeId} (hh : w.heap[g]? = some (.cells (vs ++ ex).toArray ty (0, 0))) (off m : Nat) : CellsAt w g off ((vs.drop off).take m) := by
  intro j u hj
  rw [cell_of_row _ _ _ _ _ _ hh]
  simp only [List.getElem?_toArray]
  have hj2 : (vs.drop off)[j]? = some u := by
    rw [List.getElem?_take] at hj
    split at hj
    · exact hj
    · cases hj
  rw [List.getElem?_drop] at hj2
  rw [List.getElem?_append_left (List.getElem?_eq_some_iff.1 hj2).1]
  exact hj2

theorem R.slice_of_own (h : R c s φ a w) {nm : Nat} {blk : Blk} (hn : s.mem nm = some blk) {ok : Nat → Prop} (hok : ok (φ nm).1) (hle : ∀ b, okOf c φ s b → ok b) {off len sz : Nat} {v : Value} (hv : (AV.lsl nm off len sz).rep (okOf c φ s) φ w v) :
    (DV.slice len ((blk.cells.drop off).take (len * sz))).rep ok w v := by
  obtain ⟨cap, rfl, h1, h2, h3⟩ := hv
  rw [DV.rep]
  refine ⟨_, cap, rfl, h1, h2, fun hne => ?_⟩
  obtain ⟨vs, ex, hh, hl, ho, hr⟩ := h.mem nm blk hn
  refine ⟨_, off, (vs.drop off).take (len * sz), rfl, hok, (Array.getElem?_eq_some_iff.1 hh).1, cellsAt_of_heap hh off _, fun u hu => ho u (List.mem_of_mem_drop (List.mem_of_mem_take hu)), ?_⟩
  exact DV.repL_keeps (Keeps.wide fun b hb _ => hle b hb) _ _ (repL_take (repL_drop hr off) _)

theorem R.ref_of_own (h : R c s φ a w) {nm : Nat} {blk : Blk} (hn : s.mem nm = some blk) {ok : Nat → Prop} (hok : ok (φ nm).1) (hle : ∀ b, okOf c φ s b → ok b) {off : Nat} {v : Value} (hv : (AV.ptr nm off).rep (okOf c φ s) φ w v) :
    (DV.ref (blk.cells.drop off)).rep ok w v := by
  have hv : v = .pointer (some ⟨(φ nm).1, off, none⟩) := hv
  subst hv
  rw [DV.rep]
  obtain ⟨vs, ex, hh, hl, ho, hr⟩ := h.mem nm blk hn
  refine ⟨_, off, vs.drop off, rfl, hok, (Array.getElem?_eq_some_iff.1 hh).1, ?_, fun u hu => ho u (List.mem_of_mem_drop hu), ?_⟩
  · have := cellsAt_of_heap hh off (vs.drop off).length
    rwa [List.take_length] at this
  · exact DV.repL_keeps (Keeps.wide fun b hb _ => hle b hb) _ _ (repL_drop hr off)

theorem R.freeze (h : R c s φ a w) {nm : Nat} {blk : Blk} (hn : s.mem nm = some blk) : R c (s.freeze nm blk.cells) φ a w := by
  have hk : Keeps (okOf c φ s) w (okOf c φ (s.freeze nm blk.cells)) w := Keeps.wide fun b hb _ => okOf_freeze nm _ hb
  have hmem : ∀ n, (s.freeze nm blk.cells).mem n ≠ none → n ≠ nm ∧ (s.freeze nm blk.cells).mem n = s.mem n := fun n hn2 => by
    by_cases e : n = nm
    · subst e; simp [AS.freeze, upd_same] at hn2
    · exact ⟨e, by simp only [AS.freeze, upd_ne _ _ e]⟩
  refine ⟨h.below, h.defers, h.size, h.ntv, fun i hi => ?_, fun n b hb => ?_, fun n b hb => ?_, fun x y hx hy => ?_,
    h.gh_step (fun _ hk => frz_val hk) rfl rfl rfl (Nat.le_refl _) (fun _ _ _ => rfl) fun n hn2 => .inl ⟨n, by obtain ⟨_, h2⟩ := hmem n hn2; rw [← h2]; exact hn2, rfl⟩⟩
  · have hf := h.fr i hi
    show ((s.fr i).frz nm blk.cells).rep _ φ w _
    cases hx : s.fr i with
    | d x => rw [hx] at hf; exact DV.rep_keeps hk _ _ hf
    | ptr n off =>
      rw [hx] at hf
      cases e : n == nm
      · simp only [AV.frz, e, cond_false]; exact hf
      · simp only [AV.frz, e, cond_true, AV.rep]
        have : n = nm := by simpa using e
        subst this
        refine h.ref_of_own hn (.inr ⟨h.own n blk hn, fun m hm => ?_⟩) (fun b hb => okOf_freeze n _ hb) hf
        obtain ⟨h1, h2⟩ := hmem m hm
        exact h.inj m n (by rw [← h2]; exact hm) (by rw [hn]; simp) h1
    | lsl n off len sz =>
      rw [hx] at hf
      cases e : n == nm
      · simp only [AV.frz, e, cond_false]; exact hf
      · simp only [AV.frz, e, cond_true, AV.rep]
        have : n = nm := by simpa using e
        subst this
        refine h.slice_of_own hn (.inr ⟨h.own n blk hn, fun m hm => ?_⟩) (fun b hb => okOf_freeze n _ hb) hf
        obtain ⟨h1, h2⟩ := hmem m hm
        exact h.inj m n (by rw [← h2]; exact hm) (by rw [hn]; simp) h1
    | dep n m f =>
      rw [hx] at hf
      cases e : (n == nm || m == nm)
      · simp only [AV.frz, e, cond_false]; exact DV.rep_keeps hk _ _ hf
      · simp only [AV.frz, e, cond_true, AV.rep, DV.rep]
  · obtain ⟨_, h2⟩ := hmem n (by rw [hb]; simp)
    exact h.own n b (by rw [← h2]; exact hb)
  · obtain ⟨_, h2⟩ := hmem n (by rw [hb]; simp)
    exact (h.mem n b (by rw [← h2]; exact hb)).keeps hk rfl
  · obtain ⟨_, h2⟩ := hmem x hx
    obtain ⟨_, h3⟩ := hmem y hy
    exact h.inj x y (by rw [← h2]; exact hx) (by rw [← h3]; exact hy)

structure AS.le (s s' : AS) : Prop where
  fr : ∀ i, s'.fr i = .d .any ∨ s'.fr i = s.fr i
  mem : ∀ nm blk, s'.mem nm = some blk → s.mem nm = some blk

theorem R.weaken {s' : AS} (h : R c s φ a w) (hl : s.le s') : R c s' φ a w := by
  have hm : ∀ n, s'.mem n ≠ none → s.mem n ≠ none := fun n hn => by
    cases hb : s'.mem n with
    | none => exact absurd hb hn
    | some b => rw [hl.mem n b hb]; simp
  have hk : Keeps (okOf c φ s) w (okOf c φ s') w := Keeps.wide fun b hb _ => by
    rcases hb with hb | ⟨hb, hb2⟩
    · exact .inl hb
    · exact .inr ⟨hb, fun n hn => hb2 n (hm n hn)⟩
  refine ⟨h.below, h.defers, h.size, h.ntv, fun i hi => ?_, fun n b hb => h.own n b (hl.mem n b hb), fun n b hb => (h.mem n b (hl.mem n b hb)).keeps hk rfl, fun x y hx hy => h.inj x y (hm x hx) (hm y hy),
    h.gh_step (fun v hv => ?_) rfl rfl rfl (Nat.le_refl _) (fun _ _ _ => rfl) fun n hn => .inl ⟨n, hm n hn, rfl⟩⟩
  · rcases hl.fr i with e | e
    · rw [e]; simp only [AV.rep, DV.rep]
    · rw [e]; exact AV.rep_keeps hk (h.fr i hi)
  · rcases hl.fr VG with e | e
    · rw [e] at hv; cases hv
    · rw [← e]; exact hv

def AS.app (s : AS) (nm d : Nat) (blk : Blk) (r : AV) : AS := ⟨upd (fun i => ((s.fr i).kill nm).kill d) d r, upd (upd s.mem nm none) d (some blk)⟩

theorem R.app (h : R c s φ a w) {nm : Nat} {old : Blk} (hn : s.mem nm = some old) (hg : w.grownBy w' (some (φ nm).1)) {d : Nat} (hd : d < c.nt) {g n : Nat} (hgn : g = (φ nm).1 ∨ w.heap.size ≤ g) {blk : Blk}
    (hblk : BlkAt (fun b => okOf c φ s b ∧ b < w.heap.size) w' (g, n) blk) {r : AV} {v : Value} (hv : r.rep (okOf c (upd φ d (g, n)) (s.app nm d blk r)) (upd φ d (g, n)) w' v) :
    R c (s.app nm d blk r) (upd φ d (g, n)) (a.put (some d) v) w' := by
  have hbs := h.below.size
  have hn0 : s.mem nm ≠ none := by rw [hn]; simp
  have hB := h.own nm old hn
  have hlt : d < a.tmps.size := by rw [h.size]; exact hd
  have hne : ∀ m, m ≠ d → upd φ d (g, n) m = φ m := fun m hm => upd_ne _ _ hm
  have hmem : ∀ m, m ≠ d → (s.app nm d blk r).mem m ≠ none → m ≠ nm ∧ (s.app nm d blk r).mem m = s.mem m := fun m hm hm2 => by
    have e1 : (s.app nm d blk r).mem m = upd s.mem nm none m := upd_ne _ _ hm
    by_cases e : m = nm
    · subst e; rw [e1, upd_same] at hm2; exact absurd rfl hm2
    · exact ⟨e, e1.trans (upd_ne _ _ e)⟩
  have hold : ∀ m, m ≠ nm → s.mem m ≠ none → (φ m).1 ≠ g ∧ (φ m).1 < w.heap.size := fun m hm hm2 => by
    have h1 := h.inj m nm hm2 hn0 hm
    have h2 := h.lt hm2
    rcases hgn with e | e
    · rw [e]; exact ⟨h1, h2⟩
    · exact ⟨by omega, h2⟩
  have hoks : ∀ b, okOf c φ s b → b < w.heap.size → okOf c (upd φ d (g, n)) (s.app nm d blk r) b := by
    intro b hb hl
    rcases hb with hb | ⟨hb, hb2⟩
    · exact .inl hb
    · refine .inr ⟨hb, fun m hm => ?_⟩
      by_cases e : m = d
      · subst e; rw [upd_same]; simp only
        have := hb2 nm hn0
        rcases hgn with e | e <;> omega
      · rw [hne m e]
        obtain ⟨_, h2⟩ := hmem m e hm
        exact hb2 m (by rw [← h2]; exact hm)
  have hcell : ∀ b, okOf c φ s b → b < w.heap.size → w'.heap[b]? = w.heap[b]? := fun b hb hl => by
    refine hg.block b hl (fun e => ?_)
    have e2 : b = (φ nm).1 := by injection e
    rcases hb with ⟨hb, _, he⟩ | ⟨_, hb⟩
    · subst e2
      rcases hB with hB | hB
      · omega
      · exact he hB
    · exact hb nm hn0 e2.symm
  have hk : Keeps (okOf c φ s) w (okOf c (upd φ d (g, n)) (s.app nm d blk r)) w' :=
    ⟨hoks, hg.size, fun b o u hb hl hc => (World.cell?_of_block (a := ⟨b, o, none⟩) (hcell b hb hl)).trans hc⟩
  have hv0 := h.put_ne hd
  refine ⟨⟨hg.os.trans h.below.os, hg.tape.trans h.below.tape, hg.output.trans h.below.output, Nat.le_trans hbs hg.size, fun k hk2 he => (hg.block k (by omega) (fun e => by
      injection e with e
      subst e
      rcases hB with hB | hB
      · omega
      · exact he hB)).trans (h.below.block k hk2 he), h.below.gl⟩, h.defers.keeps fun D _ h2 => hg.block D (Array.getElem?_eq_some_iff.1 h2).1 (fun e => by injection e with e; exact h.mark_ne hn h2 e), ?_, h.ntv, fun i hiV => ?_, fun m b hb => ?_, fun m b hb => ?_, fun x y hx hy hxy => ?_,
    h.gh_step (fun v hk => ?_) hg.os hg.tape hg.output hg.size (fun b hl hu => hg.block b hl (fun e => by injection e with e; exact hu nm hn0 e.symm)) fun m hm => ?_⟩
  · simp only [Act.put, Array.size_setIfInBounds]; exact h.size
  · rw [slotAt_upd c _ φ hv0, slotAt_put c a φ hlt hv0]
    show (upd (fun i => ((s.fr i).kill nm).kill d) d r i).rep _ _ w' _
    by_cases hi : i = d
    · subst hi; rw [upd_same, if_pos rfl]; exact hv
    · rw [upd_ne _ _ hi, if_neg hi]
      exact AV.rep_kill hne (AV.rep_kill (fun _ _ => rfl) (AV.rep_keeps hk (h.fr i hiV)))
  · by_cases e : m = d
    · subst e; rw [upd_same]
      rcases hgn with e | e
      · simp only; rw [e]; exact hB
      · exact .inl (Nat.le_trans hbs e)
    · obtain ⟨_, h2⟩ := hmem m e (by rw [hb]; simp)
      rw [hne m e]; exact h.own m b (by rw [← h2]; exact hb)
  · by_cases e : m = d
    · subst e
      have : b = blk := by
        have e : (s.app nm m blk r).mem m = some blk := upd_same _ _ _
        rw [e] at hb; exact (Option.some.inj hb).symm
      subst this
      rw [upd_same]
      refine hblk.keeps (Keeps.mk (fun b hb _ => hoks b hb.1 hb.2) (Nat.le_refl _) fun _ _ _ _ _ hc => hc) rfl
    · obtain ⟨h1, h2⟩ := hmem m e (by rw [hb]; simp)
      rw [hne m e]
      have hb2 : s.mem m = some b := by rw [← h2]; exact hb
      have hm0 : s.mem m ≠ none := by rw [hb2]; simp
      exact (h.mem m b hb2).keeps hk (hg.block _ (h.lt hm0) (fun e => h.inj m nm hm0 hn0 h1 (by injection e)))
  · by_cases hxd : x = d
    · subst hxd
      obtain ⟨h1, h2⟩ := hmem y (Ne.symm hxy) hy
      rw [upd_same, hne y (Ne.symm hxy)]
      exact fun e => (hold y h1 (by rw [← h2]; exact hy)).1 e.symm
    · obtain ⟨h1, h2⟩ := hmem x hxd hx
      rw [hne x hxd]
      by_cases hyd : y = d
      · subst hyd; rw [upd_same]; exact (hold x h1 (by rw [← h2]; exact hx)).1
      · obtain ⟨h3, h4⟩ := hmem y hyd hy
        rw [hne y hyd]
        exact h.inj x y (by rw [← h2]; exact hx) (by rw [← h4]; exact hy) hxy
  · have e : (s.app nm d blk r).fr VG = ((s.fr VG).kill nm).kill d := by
      show upd (fun i => ((s.fr i).kill nm).kill d) d r VG = _
      exact upd_ne _ _ (Nat.ne_of_gt hv0)
    rw [e] at hk; exact kill_val (kill_val hk)
  · by_cases e : m = d
    · subst e; rw [upd_same]
      rcases hgn with e | e
      · exact .inl ⟨nm, hn0, e⟩
      · exact .inr e
    · obtain ⟨_, h2⟩ := hmem m e hm
      rw [hne m e]; exact .inl ⟨m, by rw [← h2]; exact hm, rfl⟩
end
end Go.Proofs.Ytgjhikjnlcbmkaa

/- Regions on abstract states: in the order of the text, and, if what is unordered is independent, in any order. Nothing of the program. -/
namespace Go.Proofs.Ytgjhikjnlcbmkaa
open Go.RowKit

inductive Eff where
  | put (r : AV)
  | newBlk (blk : Blk) (r : AV)
  | setBlk (nm : Nat) (blk : Blk) (r : AV := .d .any)
  | app (nm : Nat) (blk : Blk) (r : AV)
  | appV (nm : Nat) (r : AV)

def AS.appV (s : AS) (nm d : Nat) (r : AV) : AS := ⟨upd (fun i => ((s.fr i).kill nm).kill d) d r, upd (upd s.mem nm none) d none⟩
def Eff.go (e : Eff) (dst : Option Tmp) (s : AS) : AS :=
  match e with
  | .put r => s.put dst r
  | .newBlk blk r => match dst with
    | some d => s.newBlk d blk r
    | none => s
  | .setBlk nm blk r => (s.setBlk nm blk).put dst r
  | .app nm blk r => match dst with
    | some d => s.app nm d blk r
    | none => s
  | .appV nm r => match dst with
    | some d => s.appV nm d r
    | none => s

structure Rec where
  e : Eff
  rd : List Nat
  tch : List Nat

def ge (x y : AV) : Prop := x = y ∨ y = .d .any

def Lk (s' s : AS) : Prop := ∀ (L : Nat) (v : Value), PN ≤ L → s.fr L = .d (.val v) → s'.fr L = .d (.val v)
theorem Lk.refl (s : AS) : Lk s s := fun _ _ _ h => h
structure Does (P : Program) (o : Oper) (s : AS) (rd : List Nat) (e : Eff) : Prop where
  run : ∀ (c : Ctx) (s' : AS) (φ : Nat → Nat × Nat) (a : Act) (w : World) (K : Act → World → Prop) (Q : Exit → Act → World → Prop), R c s' φ a w → (∀ x ∈ o.op.operands, ge (s'.ev x) (s.ev x)) → (∀ n ∈ rd, s'.mem n = s.mem n) →
    dstOk c o.dst → Lk s' s → (∀ φ' a' w', R c (e.go o.dst s') φ' a' w' → K a' w') → Oper.wp P o a w K Q

def fz (r : Option Nat) : Fence := { Fence.wide with round := r }
theorem callsIn_fz {r : Option Nat} {n : Nat} {P : Program} {f : FuncId} {args : Array Value} {w : World} {K : Ending → World → Prop} (h : Calls P f args w K) : CallsIn (fz r) n P f args w K := callsIn_wide (n := n).2 h
theorem rowsIn_fz {r : Option Nat} {n : Nat} {P : Program} {row : String} {args : Array Value} {w : World} {K : Value → World → Prop} (h : Rows P row args w K) : RowsIn (fz r) n P row args w K := fun c cs _ => let ⟨v, w', q, st⟩ := h c cs; ⟨v, w', q, stepsIn_wide.2 st⟩
theorem ev_lt {s : AS} {t : Tmp} (h : Nat.blt t VG = true) : s.ev (.tmp t) = s.fr t := by show (bif Nat.blt t VG then s.fr t else .d .any) = _; rw [h]; rfl
theorem ev_ge {s : AS} {t : Tmp} (h : Nat.blt t VG = false) : s.ev (.tmp t) = .d .any := by show (bif Nat.blt t VG then s.fr t else .d .any) = _; rw [h]; rfl
theorem ev_val {s : AS} {t : Tmp} {v : Value} (h : s.ev (.tmp t) = .d (.val v)) : s.fr t = .d (.val v) := by
  cases hb : Nat.blt t VG
  · rw [ev_ge hb] at h; cases h
  · rwa [ev_lt hb] at h
theorem op_in {P : Program} {o : Oper} {r : Option Nat} {n : Nat} {a : Act} {w : World} {K : Act → World → Prop} {Q : Exit → Act → World → Prop} (hnd : ∀ c, o.op ≠ .defer c) (h : Oper.wp P o a w K Q) : Oper.wpIn (fz r) n P o a w K Q := by
  refine ⟨fun _ _ => trivial, ?_⟩
  rw [Oper.semAt_eq _ _ _ hnd]
  unfold Oper.wp at h
  cases hx : (execOp a.eval o).run P w with
  | ok nx w' =>
    rw [hx] at h
    cases nx with
    | value v => exact h
    | skip => exact h
    | defer d => exact h
    | enter f args => exact ⟨fun hd => by simp [fz, Fence.wide] at hd, callsIn_fz h⟩
    | row rw args => exact ⟨fun hd => by simp [fz, Fence.wide] at hd, rowsIn_fz h⟩
    | _ => exact h.elim
  | halt st w' =>
    rw [hx] at h
    cases st <;> first | exact h | exact h.elim

def gtmp (ops : Array Oper) (o : Oper) : Option (Tmp × Bool) := o.guard.bind fun g => ((ops[g.1]?).bind (·.dst)).map fun t => (t, g.2)

def opOk (c : Ctx) (o : Oper) : Prop := dstOk c o.dst ∧ ∀ d, o.op ≠ .defer d
inductive StepOK (P : Program) (ops : Array Oper) (o : Oper) (s : AS) : Rec → Prop
  | plain {e rd tch} (hg : o.guard = none) (h : Does P o s rd e) : StepOK P ops o s ⟨e, rd, tch⟩
  | yes {e rd tch t b} (hg : gtmp ops o = some (t, b)) (hb : s.ev (.tmp t) = .d (.val (.bool b))) (h : Does P o s rd e) : StepOK P ops o s ⟨e, rd, tch⟩
  | no {tch t b b'} (hg : gtmp ops o = some (t, b)) (hb : s.ev (.tmp t) = .d (.val (.bool b'))) (hne : b' ≠ b) : StepOK P ops o s ⟨.put (.d (.val undef)), [], tch⟩
  | nor {tch t b} (hg : gtmp ops o = some (t, b)) (hb : s.ev (.tmp t) = .d (.val undef)) : StepOK P ops o s ⟨.put (.d (.val undef)), [], tch⟩

theorem yielded_eq {ops : Array Oper} {o : Oper} {t : Tmp} {b b' : Bool} (hg : gtmp ops o = some (t, b)) {tmps : Array Value} (ht : tmps.getD t undef = .bool b') : Region.wanted o (yielded ops tmps) = (b' == b) := by
  unfold gtmp at hg
  cases hgd : o.guard with
  | none => simp [hgd] at hg
  | some g =>
    obtain ⟨j, want⟩ := g
    rw [hgd] at hg
    simp only [Option.bind_some] at hg
    cases hd : (ops[j]?).bind (·.dst) with
    | none => simp [hd] at hg
    | some d =>
      rw [hd] at hg
      simp only [Option.map_some, Option.some.injEq, Prod.mk.injEq] at hg
      obtain ⟨rfl, rfl⟩ := hg
      have hy : yielded ops tmps j = some b' := by
        unfold yielded
        simp only [hd]
        rw [Array.getD_eq_getD_getElem?] at ht
        cases htt : tmps[d]? with
        | none => rw [htt] at ht; simp [undef] at ht
        | some v => rw [htt] at ht; simp at ht; subst ht; simp only [Option.bind_some, htt]
      simp only [Region.wanted, hgd, hy]
      cases b' <;> cases want <;> rfl

theorem yielded_none {ops : Array Oper} {o : Oper} {t : Tmp} {b : Bool} (hg : gtmp ops o = some (t, b)) {tmps : Array Value} (ht : tmps.getD t undef = undef) : Region.wanted o (yielded ops tmps) = false := by
  unfold gtmp at hg
  cases hgd : o.guard with
  | none => simp [hgd] at hg
  | some g =>
    obtain ⟨j, want⟩ := g
    rw [hgd] at hg
    simp only [Option.bind_some] at hg
    cases hd : (ops[j]?).bind (·.dst) with
    | none => simp [hd] at hg
    | some d =>
      rw [hd] at hg
      simp only [Option.map_some, Option.some.injEq, Prod.mk.injEq] at hg
      obtain ⟨rfl, rfl⟩ := hg
      have hy : yielded ops tmps j = none := by
        unfold yielded
        simp only [hd]
        rw [Array.getD_eq_getD_getElem?] at ht
        cases htt : tmps[d]? with
        | none => simp only [Option.bind_some, htt]
        | some v => rw [htt] at ht; simp at ht; subst ht; simp only [Option.bind_some, htt, undef]
      simp only [Region.wanted, hgd, hy]
      rfl

theorem StepOK.wpOp {P : Program} {ops : Array Oper} {o : Oper} {s s' : AS} {rc : Rec} (h : StepOK P ops o s rc) {i : Nat} (hi : ops[i]? = some o) {c : Ctx} {φ : Nat → Nat × Nat} {a : Act} {w : World}
    {K : Act → World → Prop} {Q : Exit → Act → World → Prop} (hR : R c s' φ a w) (hop : ∀ x ∈ o.op.operands, ge (s'.ev x) (s.ev x)) (hgd : ∀ t b, gtmp ops o = some (t, b) → ge (s'.fr t) (s.fr t)) (hrd : ∀ n ∈ rc.rd, s'.mem n = s.mem n)
    (hlk : Lk s' s) (hd : opOk c o) (hK : ∀ φ' a' w', R c (rc.e.go o.dst s') φ' a' w' → K a' w') {nf : Nat} : wpOpIn (fz c.rd) nf P ops Q i K a w := by
  unfold Go.wpOpIn
  simp only [hi]
  have hbool : ∀ t b b', gtmp ops o = some (t, b) → s.ev (.tmp t) = .d (.val (.bool b')) → Region.wanted o (yielded ops a.tmps) = (b' == b) := fun t b b' h1 h2 => by
    refine yielded_eq h1 ?_
    have := hR.ev (.tmp t)
    cases hb : Nat.blt t VG
    · rw [ev_ge hb] at h2; cases h2
    · rw [ev_lt hb] at h2 this
      rcases hgd t b h1 with e | e
      · rw [e, h2] at this
        exact (rep_val (ok := okOf c φ s') (w := w)).1 this
      · rw [e] at h2; cases h2
  cases h with
  | plain hg h =>
    rw [if_pos (by simp [Region.wanted, hg])]
    exact op_in hd.2 (h.run c s' φ a w K Q hR hop hrd hd.1 hlk hK)
  | yes hg hb h =>
    rw [if_pos (by rw [hbool _ _ _ hg hb]; simp)]
    exact op_in hd.2 (h.run c s' φ a w K Q hR hop hrd hd.1 hlk hK)
  | no hg hb hne =>
    rw [if_neg (by rw [hbool _ _ _ hg hb]; simpa using hne)]
    exact ⟨fun _ _ => trivial, hK φ _ _ (hR.put hd.1 ((rep_val (ok := okOf c φ s') (w := w)).2 rfl))⟩
  | @nor tch t b hg h2 =>
    have hwn : Region.wanted o (yielded ops a.tmps) = false := by
      refine yielded_none hg ?_
      have := hR.ev (.tmp t)
      cases hb : Nat.blt t VG
      · rw [ev_ge hb] at h2; cases h2
      · rw [ev_lt hb] at h2 this
        rcases hgd t b hg with e | e
        · rw [e, h2] at this
          exact (rep_val (ok := okOf c φ s') (w := w)).1 this
        · rw [e] at h2; cases h2
    rw [if_neg (by rw [hwn]; simp)]
    exact ⟨fun _ _ => trivial, hK φ _ _ (hR.put hd.1 ((rep_val (ok := okOf c φ s') (w := w)).2 rfl))⟩

def AV.names : AV → List Nat
  | .d _ => []
  | .ptr nm _ => [nm]
  | .lsl nm _ _ _ => [nm]
  | .dep n m _ => [n, m]
def tchOf (o : Oper) (s : AS) : List Nat := o.op.operands.toList.flatMap fun x => (s.ev x).names

/-! ## In the order of the text -/

def RunT (P : Program) (ops : Array Oper) : List Oper → AS → (List Rec → AS → Prop) → Prop
  | [], s, K => K [] s
  | o :: l, s, K => ∃ e rd, StepOK P ops o s ⟨e, rd, tchOf o s⟩ ∧ RunT P ops l (e.go o.dst s) fun rs => K (⟨e, rd, tchOf o s⟩ :: rs)

theorem ge_refl (x : AV) : ge x x := .inl rfl

theorem runT_wp {P : Program} {ops : Array Oper} {Q : Exit → Act → World → Prop} {c : Ctx} : ∀ (l : List Oper) (is : List Nat) (s : AS) (K : List Rec → AS → Prop), (∀ k, k < l.length → is[k]?.bind (ops[·]?) = l[k]?) → is.length = l.length → (∀ o ∈ l, opOk c o) →
    RunT P ops l s K → ∀ (φ : Nat → Nat × Nat) (a : Act) (w : World), R c s φ a w → (∀ rs t φ' a' w', K rs t → R c t φ' a' w' → Q .normal a' w') → wpOpsIn (fz c.rd) 0 P ops Q is a w := by
  intro l
  induction l with
  | nil =>
    intro is s K hl hlen hd hrun φ a w hR hQ
    have : is = [] := List.eq_nil_of_length_eq_zero hlen
    subst this
    exact hQ [] s φ a w hrun hR
  | cons o l ih =>
    intro is s K hl hlen hd hrun φ a w hR hQ
    cases is with
    | nil => simp at hlen
    | cons i is =>
      have hi : ops[i]? = some o := by simpa using hl 0 (by simp)
      rw [wpOpsIn_cons]
      obtain ⟨e, rd, hs, hr⟩ := hrun
      refine hs.wpOp hi hR (fun x _ => ge_refl _) (fun t b _ => ge_refl _) (fun n _ => rfl) (Lk.refl _) (hd o (by simp)) fun φ' a' w' hR' => ?_
      exact ih is _ _ (fun k hk => by simpa using hl (k + 1) (by simp; omega)) (by simpa using hlen) (fun o ho => hd o (by simp [ho])) hr φ' a' w' hR' fun rs t φ' a' w' hk h => hQ (⟨e, rd, tchOf o s⟩ :: rs) t φ' a' w' hk h

theorem region_text {P : Program} {id : Nat} {ops : Array Oper} {Q : Exit → Act → World → Prop} {c : Ctx} {s : AS} {K : List Rec → AS → Prop} {φ : Nat → Nat × Nat} {a : Act} {w : World} (hd : ∀ o ∈ ops.toList, opOk c o)
    (hrun : RunT P ops ops.toList s K) (hR : R c s φ a w) (hQ : ∀ rs t φ' a' w', K rs t → R c t φ' a' w' → Q .normal a' w') : (Code.region id ops false).wpIn (fz c.rd) 0 P Q a w := by
  refine wpIn_region (runT_wp ops.toList (List.range ops.size) s K (fun k hk => ?_) (by simp) hd hrun φ a w hR hQ)
  have hk2 : k < ops.size := by simpa using hk
  simp [hk2]

/-! ## In any order -/

inductive Chain (P : Program) (ops : Array Oper) : AS → List (Nat × Rec) → AS → Prop
  | nil (s : AS) : Chain P ops s [] s
  | cons {s s0 t : AS} {i : Nat} {o : Oper} {rc : Rec} {l : List (Nat × Rec)} (hi : ops[i]? = some o) (h : StepOK P ops o s0 rc) (hop : ∀ x ∈ o.op.operands, ge (s.ev x) (s0.ev x)) (hgd : ∀ t b, gtmp ops o = some (t, b) → ge (s.fr t) (s0.fr t))
      (hrd : ∀ n ∈ rc.rd, s.mem n = s0.mem n) (htc : ∀ n, n ∉ rc.tch → ∀ x ∈ o.op.operands, (s0.ev x).kill n = s0.ev x) (hlk : Lk s s0) (hdp : ∀ d, o.dst = some d → d < PN) (hl : Chain P ops (rc.e.go o.dst s) l t) : Chain P ops s ((i, rc) :: l) t

theorem AV.kill_names {x : AV} {n : Nat} (h : n ∉ x.names) : x.kill n = x := by
  cases x with
  | d x => rfl
  | ptr nm off =>
    have : (nm == n) = false := by simp [AV.names] at h; simpa using fun e => h e.symm
    simp only [AV.kill, this, cond_false]
  | lsl nm off len sz =>
    have : (nm == n) = false := by simp [AV.names] at h; simpa using fun e => h e.symm
    simp only [AV.kill, this, cond_false]
  | dep a b f =>
    simp [AV.names] at h
    have h1 : (a == n) = false := by simpa using fun e => h.1 e.symm
    have h2 : (b == n) = false := by simpa using fun e => h.2 e.symm
    simp only [AV.kill, h1, h2, Bool.or_false, cond_false]

def Eff.ch (e : Eff) (dst : Option Tmp) : List Nat :=
  match e with
  | .put _ => []
  | .newBlk _ _ => dst.toList
  | .setBlk nm _ _ => [nm]
  | .app nm _ _ => match dst with
    | some d => [nm, d]
    | none => []
  | .appV nm _ => match dst with
    | some d => [nm, d]
    | none => []
def Eff.kl (e : Eff) (dst : Option Tmp) : List Nat :=
  match e with
  | .put _ => []
  | .newBlk _ _ => dst.toList
  | .setBlk _ _ _ => []
  | .app nm _ _ => match dst with
    | some d => [nm, d]
    | none => []
  | .appV nm _ => match dst with
    | some d => [nm, d]
    | none => []
def Eff.res : Eff → AV
  | .put r => r
  | .newBlk _ r => r
  | .setBlk _ _ r => r
  | .app _ _ r => r
  | .appV _ r => r

structure Indep (ops : Array Oper) (o : Oper) (rc : Rec) (o' : Oper) (rc' : Rec) : Prop where
  d1 : ∀ d, o.dst = some d → d ∉ o'.looksAt ops
  d2 : ∀ d, o.dst = some d → o'.dst ≠ some d
  d3 : ∀ d, o'.dst = some d → d ∉ o.looksAt ops
  m1 : ∀ n ∈ rc.e.ch o.dst, n ∉ rc'.rd ∧ n ∉ rc'.e.ch o'.dst
  m2 : ∀ n ∈ rc'.e.ch o'.dst, n ∉ rc.rd
  k1 : ∀ n ∈ rc'.e.kl o'.dst, n ∉ rc.tch ∧ n ∉ rc.e.res.names
  k2 : ∀ n ∈ rc.e.kl o.dst, n ∉ rc'.e.res.names

theorem go_fr (e : Eff) (dst : Option Tmp) (s : AS) (t : Tmp) (ht : dst ≠ some t) : (e.go dst s).fr t = s.fr t ∨ (e.go dst s).fr t = .d .any := by
  have hk : ∀ (x : AV) n, x.kill n = x ∨ x.kill n = .d .any := fun x n => by
    cases x with
    | d x => exact .inl rfl
    | ptr nm off => cases h : nm == n <;> simp [AV.kill, h]
    | lsl nm off len sz => cases h : nm == n <;> simp [AV.kill, h]
    | dep a b f => cases h : (a == n || b == n) <;> simp only [AV.kill, h, cond_true, cond_false] <;> simp
  cases e with
  | put r =>
    cases dst with
    | none => exact .inl rfl
    | some d => exact .inl (upd_ne _ _ (fun e => ht (by rw [e])))
  | newBlk blk r =>
    cases dst with
    | none => exact .inl rfl
    | some d =>
      have e1 : ((Eff.newBlk blk r).go (some d) s).fr t = (s.fr t).kill d := upd_ne _ _ (fun e => ht (by rw [e]))
      rw [e1]; exact hk _ _
  | setBlk nm blk r =>
    cases dst with
    | none => exact .inl rfl
    | some d => exact .inl (upd_ne _ _ (fun e => ht (by rw [e])))
  | app nm blk r =>
    cases dst with
    | none => exact .inl rfl
    | some d =>
      have e1 : ((Eff.app nm blk r).go (some d) s).fr t = ((s.fr t).kill nm).kill d := by
        show upd (fun i => ((s.fr i).kill nm).kill d) d r t = _
        exact upd_ne _ _ (fun e => ht (by rw [e]))
      rw [e1]
      rcases hk (s.fr t) nm with h | h
      · rw [h]; exact hk _ _
      · rw [h]; exact .inr rfl
  | appV nm r =>
    cases dst with
    | none => exact .inl rfl
    | some d =>
      have e1 : ((Eff.appV nm r).go (some d) s).fr t = ((s.fr t).kill nm).kill d := by
        show upd (fun i => ((s.fr i).kill nm).kill d) d r t = _
        exact upd_ne _ _ (fun e => ht (by rw [e]))
      rw [e1]
      rcases hk (s.fr t) nm with h | h
      · rw [h]; exact hk _ _
      · rw [h]; exact .inr rfl

theorem go_fr_keep (e : Eff) (dst : Option Tmp) (s : AS) (t : Tmp) (ht : dst ≠ some t) (hk : ∀ n ∈ e.kl dst, (s.fr t).kill n = s.fr t) : (e.go dst s).fr t = s.fr t := by
  cases e with
  | put r =>
    cases dst with
    | none => rfl
    | some d => exact upd_ne _ _ (fun e => ht (by rw [e]))
  | newBlk blk r =>
    cases dst with
    | none => rfl
    | some d =>
      have e1 : ((Eff.newBlk blk r).go (some d) s).fr t = (s.fr t).kill d := upd_ne _ _ (fun e => ht (by rw [e]))
      rw [e1]; exact hk d (by simp [Eff.kl])
  | setBlk nm blk r =>
    cases dst with
    | none => rfl
    | some d => exact upd_ne _ _ (fun e => ht (by rw [e]))
  | app nm blk r =>
    cases dst with
    | none => rfl
    | some d =>
      have e1 : ((Eff.app nm blk r).go (some d) s).fr t = ((s.fr t).kill nm).kill d := by
        show upd (fun i => ((s.fr i).kill nm).kill d) d r t = _
        exact upd_ne _ _ (fun e => ht (by rw [e]))
      rw [e1, hk nm (by simp [Eff.kl]), hk d (by simp [Eff.kl])]
  | appV nm r =>
    cases dst with
    | none => rfl
    | some d =>
      have e1 : ((Eff.appV nm r).go (some d) s).fr t = ((s.fr t).kill nm).kill d := by
        show upd (fun i => ((s.fr i).kill nm).kill d) d r t = _
        exact upd_ne _ _ (fun e => ht (by rw [e]))
      rw [e1, hk nm (by simp [Eff.kl]), hk d (by simp [Eff.kl])]

theorem go_mem (e : Eff) (dst : Option Tmp) (s : AS) (n : Nat) (hn : n ∉ e.ch dst) : (e.go dst s).mem n = s.mem n := by
  cases e with
  | put r => cases dst <;> rfl
  | newBlk blk r =>
    cases dst with
    | none => rfl
    | some d => exact upd_ne _ _ (by simpa [Eff.ch] using hn)
  | setBlk nm blk r =>
    have : n ≠ nm := by simpa [Eff.ch] using hn
    cases dst <;> exact upd_ne _ _ this
  | app nm blk r =>
    cases dst with
    | none => rfl
    | some d =>
      simp [Eff.ch] at hn
      exact (upd_ne _ _ hn.2).trans (upd_ne _ _ hn.1)
  | appV nm r =>
    cases dst with
    | none => rfl
    | some d =>
      simp [Eff.ch] at hn
      exact (upd_ne _ _ hn.2).trans (upd_ne _ _ hn.1)

def AV.killL (ns : List Nat) (x : AV) : AV := bif x.names.any ns.contains then .d .any else x
theorem AV.killL_nil (x : AV) : x.killL [] = x := by
  have : x.names.any (fun n => ([] : List Nat).contains n) = false := by cases x <;> rfl
  unfold AV.killL; rw [this]; rfl
theorem contains_one (n m : Nat) : [n].contains m = (m == n) := by
  by_cases h : m = n
  · subst h; simp
  · have h2 : (m == n) = false := beq_eq_false_iff_ne.2 h
    simp [h, h2]
theorem AV.killL_one (x : AV) (n : Nat) : x.kill n = x.killL [n] := by
  cases x with
  | d x => rfl
  | ptr nm off => simp only [AV.kill, AV.killL, AV.names, List.any_cons, List.any_nil, contains_one, Bool.or_false]
  | lsl nm off len sz => simp only [AV.kill, AV.killL, AV.names, List.any_cons, List.any_nil, contains_one, Bool.or_false]
  | dep a b f => simp only [AV.kill, AV.killL, AV.names, List.any_cons, List.any_nil, contains_one, Bool.or_false]
theorem contains_two (n m k : Nat) : [m, n].contains k = (k == m || k == n) := by
  rw [List.contains_cons, contains_one]
theorem AV.killL_two (x : AV) (m n : Nat) : (x.kill m).kill n = x.killL [m, n] := by
  cases x with
  | d x => rfl
  | ptr nm off =>
    cases h : nm == m <;> cases h2 : nm == n <;> simp only [AV.kill, AV.killL, AV.names, List.any_cons, List.any_nil, contains_two, Bool.or_false, Bool.or_true, h, h2, cond_true, cond_false]
  | lsl nm off len sz =>
    cases h : nm == m <;> cases h2 : nm == n <;> simp only [AV.kill, AV.killL, AV.names, List.any_cons, List.any_nil, contains_two, Bool.or_false, Bool.or_true, h, h2, cond_true, cond_false]
  | dep a b f =>
    cases h : a == m <;> cases h2 : a == n <;> cases h3 : b == m <;> cases h4 : b == n <;> simp only [AV.kill, AV.killL, AV.names, List.any_cons, List.any_nil, contains_two, Bool.or_false, Bool.or_true, Bool.false_or, Bool.true_or, h, h2, h3, h4, cond_true, cond_false]
theorem AV.killL_comm (x : AV) (ms ns : List Nat) : (x.killL ms).killL ns = (x.killL ns).killL ms := by
  have hd : ∀ ks : List Nat, (AV.d .any).killL ks = .d .any := fun _ => rfl
  have hx : ∀ ks : List Nat, x.killL ks = bif x.names.any ks.contains then .d .any else x := fun _ => rfl
  cases h1 : x.names.any ms.contains <;> cases h2 : x.names.any ns.contains <;> simp only [hx ms, hx ns, h1, h2, cond_true, cond_false, hd]
theorem AV.killL_names {x : AV} {ns : List Nat} (h : ∀ n ∈ ns, n ∉ x.names) : x.killL ns = x := by
  have : x.names.any ns.contains = false := by
    rw [List.any_eq_false]
    intro n hn hc
    exact h n (by simpa using hc) hn
  unfold AV.killL; rw [this]; rfl
def Eff.mk (e : Eff) (dst : Option Tmp) (m : Nat → Option Blk) : Nat → Option Blk :=
  match e with
  | .put _ => m
  | .newBlk blk _ => match dst with
    | some d => upd m d (some blk)
    | none => m
  | .setBlk nm blk _ => upd m nm (some blk)
  | .app nm blk _ => match dst with
    | some d => upd (upd m nm none) d (some blk)
    | none => m
  | .appV nm _ => match dst with
    | some d => upd (upd m nm none) d none
    | none => m
def Eff.kn (e : Eff) (dst : Option Tmp) : List Nat := match dst with
  | some _ => e.kl dst
  | none => []

theorem go_eq (e : Eff) (dst : Option Tmp) (s : AS) : e.go dst s = ⟨match dst with | some d => upd (fun i => (s.fr i).killL (e.kn dst)) d e.res | none => s.fr, e.mk dst s.mem⟩ := by
  cases dst with
  | none => cases e <;> rfl
  | some d =>
    cases e with
    | put r => simp only [Eff.go, AS.put, Eff.kn, Eff.kl, AV.killL_nil]; rfl
    | newBlk blk r =>
      have : s.killAll d = fun i => (s.fr i).killL [d] := funext fun i => AV.killL_one _ _
      show AS.mk (upd (s.killAll d) d r) _ = _
      rw [this]; rfl
    | setBlk nm blk r => simp only [Eff.go, AS.setBlk, AS.put, Eff.kn, Eff.kl, AV.killL_nil]; rfl
    | app nm blk r => simp only [Eff.go, AS.app, Eff.kn, Eff.kl, AV.killL_two]; rfl
    | appV nm r => simp only [Eff.go, AS.appV, Eff.kn, Eff.kl, AV.killL_two]; rfl

theorem mk_in {e : Eff} {d : Option Tmp} {k : Nat} (m m' : Nat → Option Blk) (hk : k ∈ e.ch d) : e.mk d m k = e.mk d m' k := by
  cases e with
  | put r => simp [Eff.ch] at hk
  | newBlk blk r =>
    cases d with
    | none => simp [Eff.ch] at hk
    | some d => simp [Eff.ch] at hk; subst hk; simp only [Eff.mk, upd_same]
  | setBlk nm blk r => simp [Eff.ch] at hk; subst hk; simp only [Eff.mk, upd_same]
  | app nm blk r =>
    cases d with
    | none => simp [Eff.ch] at hk
    | some d =>
      simp only [Eff.mk]
      by_cases h1 : k = d
      · subst h1; rw [upd_same, upd_same]
      · simp [Eff.ch, h1] at hk; subst hk; rw [upd_ne _ _ h1, upd_ne _ _ h1, upd_same, upd_same]
  | appV nm r =>
    cases d with
    | none => simp [Eff.ch] at hk
    | some d =>
      simp only [Eff.mk]
      by_cases h1 : k = d
      · subst h1; rw [upd_same, upd_same]
      · simp [Eff.ch, h1] at hk; subst hk; rw [upd_ne _ _ h1, upd_ne _ _ h1, upd_same, upd_same]
theorem mk_out {e : Eff} {d : Option Tmp} {k : Nat} (m : Nat → Option Blk) (hk : k ∉ e.ch d) : e.mk d m k = m k := by
  cases e with
  | put r => rfl
  | newBlk blk r =>
    cases d with
    | none => rfl
    | some d => simp [Eff.ch] at hk; simp only [Eff.mk, upd_ne _ _ hk]
  | setBlk nm blk r => simp [Eff.ch] at hk; simp only [Eff.mk, upd_ne _ _ hk]
  | app nm blk r =>
    cases d with
    | none => rfl
    | some d => simp [Eff.ch] at hk; simp only [Eff.mk, upd_ne _ _ hk.2, upd_ne _ _ hk.1]
  | appV nm r =>
    cases d with
    | none => rfl
    | some d => simp [Eff.ch] at hk; simp only [Eff.mk, upd_ne _ _ hk.2, upd_ne _ _ hk.1]
theorem mk_comm {e e' : Eff} {d d' : Option Tmp} (h : ∀ n ∈ e.ch d, n ∉ e'.ch d') (m : Nat → Option Blk) : e.mk d (e'.mk d' m) = e'.mk d' (e.mk d m) := by
  funext k
  by_cases h1 : k ∈ e.ch d
  · have h2 := h k h1
    rw [mk_out _ h2]
    exact mk_in _ _ h1
  · rw [mk_out _ h1]
    by_cases h2 : k ∈ e'.ch d'
    · exact mk_in _ _ h2
    · rw [mk_out _ h2, mk_out _ h2, mk_out _ h1]

theorem kn_sub {e : Eff} {d : Option Tmp} {n : Nat} (h : n ∈ e.kn d) : n ∈ e.kl d := by
  cases d with
  | none => simp [Eff.kn] at h
  | some d => exact h

theorem go_comm {ops : Array Oper} {o o' : Oper} {rc rc' : Rec} (h : Indep ops o rc o' rc') (s : AS) : rc'.e.go o'.dst (rc.e.go o.dst s) = rc.e.go o.dst (rc'.e.go o'.dst s) := by
  have hm : rc'.e.mk o'.dst (rc.e.mk o.dst s.mem) = rc.e.mk o.dst (rc'.e.mk o'.dst s.mem) := (mk_comm (fun n hn => (h.m1 n hn).2) s.mem).symm
  have r1 : rc.e.res.killL (rc'.e.kn o'.dst) = rc.e.res := AV.killL_names fun n hn => (h.k1 n (kn_sub hn)).2
  have r2 : rc'.e.res.killL (rc.e.kn o.dst) = rc'.e.res := AV.killL_names fun n hn => h.k2 n (kn_sub hn)
  simp only [go_eq, hm]
  congr 1
  have hdd := h.d2
  cases hd : o.dst with
  | none => rfl
  | some d =>
    rw [hd] at r2
    cases hd' : o'.dst with
    | none => simp only []
    | some d' =>
      rw [hd'] at r1
      have hne : d ≠ d' := fun e => hdd d hd (by rw [hd', e])
      funext k
      by_cases h1 : k = d'
      · subst h1
        simp only [upd_same, upd_ne _ _ (Ne.symm hne)]
        exact r2.symm
      · by_cases h2 : k = d
        · subst h2
          simp only [upd_same, upd_ne _ _ hne]
          exact r1
        · simp only [upd_ne _ _ h1, upd_ne _ _ h2]
          exact AV.killL_comm _ _ _

theorem go_fr_eq (e : Eff) (dst : Option Tmp) (s : AS) (t : Tmp) (ht : dst ≠ some t) : (e.go dst s).fr t = (s.fr t).killL (e.kn dst) := by
  rw [go_eq]
  cases dst with
  | none => exact (AV.killL_nil _).symm
  | some d =>
    have hne : t ≠ d := fun e => ht (by rw [e])
    show upd (fun i => (s.fr i).killL (e.kn (some d))) d e.res t = _
    exact upd_ne _ _ hne

theorem go_fr' (e : Eff) (dst : Option Tmp) (s : AS) (t : Tmp) (ht : dst ≠ some t) : (e.go dst s).fr t = s.fr t ∨ (e.go dst s).fr t = .d .any := go_fr e dst s t ht

theorem ge_kill {x y : AV} {ns : List Nat} (h : ge x y) (hn : ∀ n ∈ ns, n ∉ y.names) : ge (x.killL ns) y := by
  rcases h with rfl | h
  · exact .inl (AV.killL_names hn)
  · exact .inr h

theorem lk_back {s s1 : AS} {dst : Option Tmp} (e : Eff) (hd : ∀ d, dst = some d → d < PN) (h : Lk (e.go dst s) s1) : Lk s s1 := fun L v hL hv => by
  have h1 := h L v hL hv
  rcases go_fr' e dst s L (fun hh => absurd (hd L hh) (Nat.not_lt.2 hL)) with h2 | h2
  · rwa [h2] at h1
  · rw [h2] at h1; cases h1
theorem lk_go {s s0 : AS} {dst : Option Tmp} (e : Eff) (hd : ∀ d, dst = some d → d < PN) (h : Lk s s0) : Lk (e.go dst s) s0 := fun L v hL hv => by
  have h1 := h L v hL hv
  rw [go_fr_keep e dst s L (fun hh => absurd (hd L hh) (Nat.not_lt.2 hL)) (fun n _ => by rw [h1]; rfl)]
  exact h1
theorem chain_swap {P : Program} {ops : Array Oper} {s t : AS} {i j : Nat} {rc rc' : Rec} {l : List (Nat × Rec)} (h : Chain P ops s ((i, rc) :: (j, rc') :: l) t)
    (hi : ∀ o o', ops[i]? = some o → ops[j]? = some o' → Indep ops o rc o' rc') : Chain P ops s ((j, rc') :: (i, rc) :: l) t := by
  cases h with
  | @cons _ s0 _ _ o _ _ hoi h hop hgd hrd htc hlk hdp hl =>
    cases hl with
    | @cons _ s1 _ _ o' _ _ hoj h' hop' hgd' hrd' htc' hlk' hdp' hl' =>
      have hI := hi o o' hoi hoj
      have hlook : ∀ x ∈ o'.op.operands, ∀ t, x = .tmp t → o.dst ≠ some t := fun x hx t ht hd =>
        hI.d1 t hd (List.mem_append_left _ (List.mem_filterMap.2 ⟨x, by simpa using hx, by rw [ht]⟩))
      have hlook2 : ∀ x ∈ o.op.operands, ∀ t, x = .tmp t → o'.dst ≠ some t := fun x hx t ht hd =>
        hI.d3 t hd (List.mem_append_left _ (List.mem_filterMap.2 ⟨x, by simpa using hx, by rw [ht]⟩))
      have hgt : ∀ (o : Oper) t b, gtmp ops o = some (t, b) → t ∈ o.looksAt ops := fun o t b hg => by
        unfold gtmp at hg
        unfold Oper.looksAt
        cases hgd : o.guard with
        | none => simp [hgd] at hg
        | some g =>
          obtain ⟨g1, g2⟩ := g
          simp only [hgd, Option.bind_some, Option.map_eq_some_iff] at hg
          obtain ⟨d, hd, he⟩ := hg
          injection he with e1 e2
          subst e1
          simp [hd]
      have back : ∀ (s : AS) (t : Tmp) (y : AV), o.dst ≠ some t → ge ((rc.e.go o.dst s).fr t) y → ge (s.fr t) y := fun s t y hd hge => by
        rcases go_fr' rc.e o.dst s t hd with e | e
        · rwa [e] at hge
        · rw [e] at hge
          rcases hge with e2 | e2
          · exact .inr e2.symm
          · exact .inr e2
      refine .cons hoj h' (fun x hx => ?_) (fun t b hg => ?_) (fun n hn => ?_) htc' (lk_back _ hdp hlk') hdp' (.cons hoi h (fun x hx => ?_) (fun t b hg => ?_) (fun n hn => ?_) htc (lk_go _ hdp' hlk) hdp ?_)
      · have h1 := hop' x hx
        cases x with
        | tmp t =>
          cases hbt : Nat.blt t VG
          · rw [ev_ge hbt, ev_ge hbt]; exact ge_refl _
          · rw [ev_lt hbt, ev_lt hbt] at *
            exact back s t _ (hlook _ hx t rfl) h1
        | const v => exact h1
        | global g => exact h1
        | func f => exact h1
      · exact back s t _ (fun hd => hI.d1 t hd (hgt o' t b hg)) (hgd' t b hg)
      · rw [← hrd' n hn]
        exact (go_mem _ _ _ _ fun hc => (hI.m1 n hc).1 hn).symm
      · have h1 := hop x hx
        cases x with
        | tmp t =>
          cases hbt : Nat.blt t VG
          · rw [ev_ge hbt, ev_ge hbt]; exact ge_refl _
          rw [ev_lt hbt, ev_lt hbt] at *
          have hne := hlook2 _ hx t rfl
          have h2 := go_fr_eq rc'.e o'.dst s t hne
          rw [h2]
          refine ge_kill h1 fun n hn hm => ?_
          have h3 := htc n (hI.k1 n (kn_sub hn)).1 _ hx
          rw [ev_lt hbt] at h3
          have h4 : (s0.fr t).kill n = s0.fr t := h3
          cases hx0 : s0.fr t with
          | d x => rw [hx0] at hm; simp [AV.names] at hm
          | ptr nm off => rw [hx0] at hm h4; simp [AV.names] at hm; subst hm; simp [AV.kill] at h4
          | lsl nm off len sz => rw [hx0] at hm h4; simp [AV.names] at hm; subst hm; simp [AV.kill] at h4
          | dep a b f =>
            rw [hx0] at hm h4
            simp [AV.names] at hm
            rcases hm with rfl | rfl
            · simp only [AV.kill, BEq.rfl, Bool.true_or, cond_true] at h4; cases h4
            · simp only [AV.kill, BEq.rfl, Bool.or_true, cond_true] at h4; cases h4
        | const v => exact h1
        | global g => exact h1
        | func f => exact h1
      · have hne : o'.dst ≠ some t := fun hd => hI.d3 t hd (hgt o t b hg)
        have h1 := hgd t b hg
        have h2 := go_fr_eq rc'.e o'.dst s t hne
        rw [h2]
        -- the guard's value is a Bool
        have hb : ∃ y, s0.fr t = .d y := by
          cases h with
          | plain hg2 _ => simp [gtmp, hg2] at hg
          | yes hg2 hb _ => rw [hg] at hg2; injection hg2 with e; injection e with e1 e2; subst e1; exact ⟨_, ev_val hb⟩
          | no hg2 hb _ => rw [hg] at hg2; injection hg2 with e; injection e with e1 e2; subst e1; exact ⟨_, ev_val hb⟩
          | nor hg2 hb => rw [hg] at hg2; injection hg2 with e; injection e with e1 e2; subst e1; exact ⟨_, ev_val hb⟩
        obtain ⟨y, hy⟩ := hb
        exact ge_kill h1 fun n _ hm => by rw [hy] at hm; simp [AV.names] at hm
      · rw [go_mem _ _ _ _ fun hc => hI.m2 n hc hn]
        exact hrd n hn
      · rw [← go_comm hI s]
        exact hl'


theorem chain_front {P : Program} {ops : Array Oper} {t : AS} {i : Nat} {rc : Rec} {l2 : List (Nat × Rec)} : ∀ (l1 : List (Nat × Rec)) (s : AS), Chain P ops s (l1 ++ (i, rc) :: l2) t →
    (∀ p ∈ l1, ∀ o o', ops[p.1]? = some o → ops[i]? = some o' → Indep ops o p.2 o' rc) → Chain P ops s ((i, rc) :: (l1 ++ l2)) t := by
  intro l1
  induction l1 with
  | nil => exact fun s h _ => h
  | cons p l1 ih =>
    intro s h hi
    obtain ⟨k, r⟩ := p
    refine chain_swap ?_ (fun o o' ho ho' => hi (k, r) (by simp) o o' ho ho')
    cases h with
    | cons hoi h hop hgd hrd htc hlk hdp hl => exact .cons hoi h hop hgd hrd htc hlk hdp (ih _ hl fun p hp => hi p (by simp [hp]))

inductive Ordd (ops : Array Oper) : Nat → Nat → Prop
  | one {i : Nat} {o : Oper} {e : Edge} (h : ops[i]? = some o) (he : e ∈ o.after) (hb : Region.binds .any e = true) : Ordd ops e.on i
  | on {i j : Nat} {o : Oper} {e : Edge} (h : ops[i]? = some o) (he : e ∈ o.after) (hb : Region.binds .any e = true) (hr : Ordd ops j e.on) : Ordd ops j i

theorem ordd_listed {ops : Array Oper} {listed : Array Bool} (hcl : ∀ (k : Nat) (o : Oper) (e : Edge), ops[k]? = some o → listed.getD k false = true → e ∈ o.after → Region.binds .any e = true → listed.getD e.on false = true)
    {j i : Nat} (h : Ordd ops j i) (hi : ∀ (o : Oper) (e : Edge), ops[i]? = some o → e ∈ o.after → Region.binds .any e = true → listed.getD e.on false = true) : listed.getD j false = true := by
  induction h with
  | one h he hb => exact hi _ _ h he hb
  | on h he hb hr ih => exact ih fun o e' ho he' hb' => hcl _ o e' ho (hi _ _ h he hb) he' hb'

theorem getD_tf {l : Array Bool} {i : Nat} (hi : i < l.size) : l.getD i true = l.getD i false := by simp [hi]

theorem getD_set_true {l : Array Bool} {i k : Nat} (hi : i < l.size) (b : Bool) : (l.setIfInBounds i true).getD k b = if k = i then true else l.getD k b := by
  simp only [Array.getD_eq_getD_getElem?]
  by_cases h : k = i
  · subst h; simp [hi]
  · rw [Array.getElem?_setIfInBounds_ne (Ne.symm h), if_neg h]

theorem chain_any {P : Program} {ops : Array Oper} {Q : Exit → Act → World → Prop} {c : Ctx} {t : AS} (hwf : ∀ (i : Nat) (o : Oper) (e : Edge), ops[i]? = some o → e ∈ o.after → Region.binds .any e = true → e.on < i)
    (hd : ∀ o ∈ ops.toList, opOk c o) (hQ : ∀ φ a w, R c t φ a w → Q .normal a w) :
    ∀ (n : Nat) (l : List (Nat × Rec)) (s : AS) (φ : Nat → Nat × Nat) (a : Act) (w : World) (listed : Array Bool) (fuel : Nat), l.length = n → listed.size = ops.size → Chain P ops s l t → R c s φ a w →
      l.Pairwise (fun p q => p.1 < q.1) → (∀ i, i < ops.size → (listed.getD i true = false ↔ ∃ p ∈ l, p.1 = i)) →
      (∀ (k : Nat) (o : Oper) (e : Edge), ops[k]? = some o → listed.getD k false = true → e ∈ o.after → Region.binds .any e = true → listed.getD e.on false = true) →
      l.Pairwise (fun p q => Ordd ops p.1 q.1 ∨ ∀ o o', ops[p.1]? = some o → ops[q.1]? = some o' → Indep ops o p.2 o' q.2) → n ≤ fuel → wpAnyIn (fz c.rd) 0 P .any ops Q fuel listed a w := by
  intro n
  induction n with
  | zero =>
    intro l s φ a w listed fuel hn hsz hch hR hs hl hcl hp hf
    have : l = [] := List.eq_nil_of_length_eq_zero hn
    subst this
    have hr : Region.ready .any ops listed = [] := by
      rw [List.eq_nil_iff_forall_not_mem]
      intro i hi
      obtain ⟨h1, o, ho, _⟩ := mem_ready.1 hi
      obtain ⟨p, hp, _⟩ := (hl i (Array.getElem?_eq_some_iff.1 ho).1).1 h1
      simp at hp
    have hq : Q .normal a w := by cases hch; exact hQ φ a w hR
    cases fuel with
    | zero => exact ⟨hr, hq⟩
    | succ f => exact ⟨fun _ => hq, fun i hi => by rw [hr] at hi; cases hi⟩
  | succ n ih =>
    intro l s φ a w listed fuel hn hsz hch hR hs hl hcl hp hf
    cases fuel with
    | zero => omega
    | succ fuel =>
      have hop : ∀ p ∈ l, ∃ o, ops[p.1]? = some o := by
        intro p hpl
        clear ih hn hs hl hp hR hQ
        induction hch with
        | nil => simp at hpl
        | cons hi _ _ _ _ _ _ _ _ ihc =>
          rcases List.mem_cons.1 hpl with rfl | h
          · exact ⟨_, hi⟩
          · exact ihc h
      refine ⟨fun hr => ?_, fun i hi => ?_⟩
      · exfalso
        cases l with
        | nil => simp at hn
        | cons p l =>
          obtain ⟨o, ho⟩ := hop p (by simp)
          have hlt := (Array.getElem?_eq_some_iff.1 ho).1
          have : p.1 ∈ Region.ready .any ops listed := by
            refine mem_ready.2 ⟨(hl p.1 hlt).2 ⟨p, by simp, rfl⟩, o, ho, fun e he hb => ?_⟩
            have h1 := hwf p.1 o e ho he hb
            cases hv : listed.getD e.on false
            · exfalso
              have h2 : listed.getD e.on true = false := by rw [getD_tf (by omega)]; exact hv
              obtain ⟨q, hq, e2⟩ := (hl e.on (by omega)).1 h2
              rcases List.mem_cons.1 hq with rfl | hq
              · omega
              · have := (List.pairwise_cons.1 hs).1 q hq; omega
            · rfl
          rw [hr] at this; cases this
      · obtain ⟨hi1, o, ho, hi2⟩ := mem_ready.1 hi
        have hlt := (Array.getElem?_eq_some_iff.1 ho).1
        obtain ⟨p, hpl, rfl⟩ := (hl i hlt).1 hi1
        obtain ⟨l1, l2, rfl⟩ := List.append_of_mem hpl
        have hfront := chain_front (i := p.1) (rc := p.2) l1 s hch (fun q hq o1 o2 h1 h2 => by
          have h3 := (List.pairwise_append.1 hp).2.2 q hq p (by simp)
          rcases h3 with h3 | h3
          · exfalso
            have h4 := ordd_listed hcl h3 (fun o' e ho' he hb => by
              rw [ho] at ho'; cases ho'; exact hi2 e he hb)
            obtain ⟨oq, hoq⟩ := hop q (by simp [hq])
            have hqlt := (Array.getElem?_eq_some_iff.1 hoq).1
            have h5 := (hl q.1 hqlt).2 ⟨q, by simp [hq], rfl⟩
            rw [getD_tf (by omega)] at h5
            rw [h5] at h4; cases h4
          · exact h3 o1 o2 h1 h2)
        cases hfront with
        | @cons _ s0 _ _ o1 _ _ hoi h hop' hgd hrd htc hlk hdp hch' =>
          rw [ho] at hoi; cases hoi
          refine h.wpOp ho hR hop' hgd hrd hlk (hd o (by simpa using Array.mem_of_getElem? ho)) fun φ' a' w' hR' => ?_
          have hsub : ∀ q, q ∈ l1 ++ l2 → q ∈ l1 ++ p :: l2 := fun q hq => by
            rcases List.mem_append.1 hq with h | h <;> simp [h]
          have hsl : (l1 ++ l2).Sublist (l1 ++ p :: l2) := List.Sublist.append (List.Sublist.refl _) (List.sublist_cons_self _ _)
          refine ih (l1 ++ l2) _ φ' a' w' _ fuel (by simp at hn ⊢; omega) (by simpa using hsz) hch' hR' (hs.sublist hsl) (fun k hk => ?_) (fun k ok e hok hk he hb => ?_) (hp.sublist hsl) (by omega)
          · rw [getD_set_true (by omega)]
            by_cases hkp : k = p.1
            · subst hkp
              rw [if_pos rfl]
              constructor
              · intro h; cases h
              · rintro ⟨q, hq, e⟩
                exfalso
                rcases List.mem_append.1 hq with h | h
                · have := (List.pairwise_append.1 hs).2.2 q h p (by simp); omega
                · have := (List.pairwise_cons.1 (List.pairwise_append.1 hs).2.1).1 q h; omega
            · rw [if_neg hkp, hl k hk]
              constructor
              · rintro ⟨q, hq, e⟩
                refine ⟨q, ?_, e⟩
                rcases List.mem_append.1 hq with h | h
                · simp [h]
                · rcases List.mem_cons.1 h with rfl | h
                  · exact absurd e.symm hkp
                  · simp [h]
              · rintro ⟨q, hq, e⟩
                exact ⟨q, hsub q hq, e⟩
          · rw [getD_set_true (by omega)] at hk ⊢
            by_cases heo : e.on = p.1
            · rw [if_pos heo]
            · rw [if_neg heo]
              by_cases hkp : k = p.1
              · subst hkp
                rw [ho] at hok; cases hok
                exact hi2 e he hb
              · rw [if_neg hkp] at hk
                exact hcl k ok e hok hk he hb


/-! ## The check -/

def bitsOf (acc : List Nat) (o : Oper) : Nat := o.after.toList.foldl (fun s e => bif Region.binds .any e then s ||| (2 ^ e.on ||| acc.getD e.on 0) else s) 0
def befs : List Oper → List Nat → List Nat
  | [], acc => acc
  | o :: l, acc => befs l (acc ++ [bitsOf acc o])
def wfB : List Oper → Nat → Bool
  | [], _ => true
  | o :: l, i => o.after.toList.all (fun e => !Region.binds .any e || Nat.blt e.on i) && wfB l (i + 1)
def disj (l m : List Nat) : Bool := l.all fun n => !m.contains n
def indepB (ops : Array Oper) (o : Oper) (rc : Rec) (o' : Oper) (rc' : Rec) : Bool :=
  o.apart ops o' && (disj (rc.e.ch o.dst) rc'.rd && (disj (rc.e.ch o.dst) (rc'.e.ch o'.dst) && (disj (rc'.e.ch o'.dst) rc.rd && (disj (rc'.e.kl o'.dst) rc.tch && (disj (rc'.e.kl o'.dst) rc.e.res.names && disj (rc.e.kl o.dst) rc'.e.res.names)))))
def rowB (ops : Array Oper) (bs : List Nat) (i : Nat) (o : Oper) (rc : Rec) : List Oper → List Rec → Nat → Bool
  | o' :: l, rc' :: rs, j => ((bs.getD j 0).testBit i || indepB ops o rc o' rc') && rowB ops bs i o rc l rs (j + 1)
  | _, _, _ => true
def pairsB (ops : Array Oper) (bs : List Nat) : List Oper → List Rec → Nat → Bool
  | o :: l, rc :: rs, i => rowB ops bs i o rc l rs (i + 1) && pairsB ops bs l rs (i + 1)
  | _, _, _ => true
def regOk (ops : Array Oper) (rs : List Rec) : Bool := wfB ops.toList 0 && pairsB ops (befs ops.toList []) ops.toList rs 0

theorem disj_spec {l m : List Nat} (h : disj l m = true) : ∀ n ∈ l, n ∉ m := by
  intro n hn hm
  unfold disj at h
  rw [List.all_eq_true] at h
  have := h n hn
  simp [hm] at this

theorem indepB_spec {ops : Array Oper} {o o' : Oper} {rc rc' : Rec} (h : indepB ops o rc o' rc' = true) : Indep ops o rc o' rc' := by
  simp only [indepB, Bool.and_eq_true] at h
  obtain ⟨h1, h2, h3, h4, h5, h6, h7⟩ := h
  obtain ⟨a1, a2, a3⟩ := Oper.apart_spec h1
  exact ⟨a1, a2, a3, fun n hn => ⟨disj_spec h2 n hn, disj_spec h3 n hn⟩, disj_spec h4, fun n hn => ⟨disj_spec h5 n hn, disj_spec h6 n hn⟩, disj_spec h7⟩

theorem wfB_spec {ops : Array Oper} : ∀ (l : List Oper) (i : Nat), wfB l i = true → (∀ k, ops[i + k]? = l[k]?) → ∀ k o e, ops[i + k]? = some o → e ∈ o.after → Region.binds .any e = true → e.on < i + k := by
  intro l
  induction l with
  | nil => intro i _ hl k o e ho; rw [hl k] at ho; simp at ho
  | cons x l ih =>
    intro i h hl k o e ho he hb
    simp only [wfB, Bool.and_eq_true] at h
    cases k with
    | zero =>
      have : x = o := by have := hl 0; rw [ho] at this; simpa using this.symm
      subst this
      have h1 := List.all_eq_true.1 h.1 e (by simpa using he)
      simp only [hb, Bool.not_true, Bool.false_or] at h1
      exact Nat.le_of_ble_eq_true h1
    | succ k =>
      have := ih (i + 1) h.2 (fun k => by have := hl (k + 1); rw [← Nat.add_assoc, Nat.add_right_comm] at this; simpa using this) k o e (by rw [Nat.add_right_comm, Nat.add_assoc]; exact ho) he hb
      omega

theorem bitsOf_spec {acc : List Nat} {o : Oper} {j : Nat} (h : (bitsOf acc o).testBit j = true) : ∃ e ∈ o.after, Region.binds .any e = true ∧ (e.on = j ∨ (acc.getD e.on 0).testBit j = true) := by
  have key : ∀ (l : List Edge) (s : Nat), (l.foldl (fun s e => bif Region.binds .any e then s ||| (2 ^ e.on ||| acc.getD e.on 0) else s) s).testBit j = true → s.testBit j = true ∨ ∃ e ∈ l, Region.binds .any e = true ∧ (e.on = j ∨ (acc.getD e.on 0).testBit j = true) := by
    intro l
    induction l with
    | nil => exact fun s h => .inl h
    | cons e l ih =>
      intro s h
      rw [List.foldl_cons] at h
      rcases ih _ h with h1 | ⟨e', he', h1⟩
      · cases hb : Region.binds .any e
        · rw [hb] at h1; exact .inl h1
        · rw [hb] at h1
          simp only [cond_true, Nat.testBit_or, Bool.or_eq_true] at h1
          rcases h1 with h1 | h1 | h1
          · exact .inl h1
          · refine .inr ⟨e, by simp, hb, .inl ?_⟩
            rw [Nat.testBit_two_pow] at h1
            exact of_decide_eq_true h1
          · exact .inr ⟨e, by simp, hb, .inr h1⟩
      · exact .inr ⟨e', by simp [he'], h1⟩
  rcases key _ 0 h with h1 | ⟨e, he, h1⟩
  · simp at h1
  · exact ⟨e, by simpa using he, h1⟩

theorem befs_spec {ops : Array Oper} : ∀ (l : List Oper) (acc : List Nat), (∀ k, ops[acc.length + k]? = l[k]?) → (∀ i j, (acc.getD i 0).testBit j = true → Ordd ops j i) → ∀ i j, ((befs l acc).getD i 0).testBit j = true → Ordd ops j i := by
  intro l
  induction l with
  | nil => exact fun acc _ h => h
  | cons o l ih =>
    intro acc hl h
    have ho : ops[acc.length]? = some o := by simpa using hl 0
    refine ih (acc ++ [bitsOf acc o]) (fun k => ?_) (fun i j hb => ?_)
    · have := hl (k + 1)
      rw [List.length_append, List.length_singleton, Nat.add_assoc, Nat.add_comm 1 k]
      simpa using this
    · rw [List.getD_eq_getElem?_getD] at hb
      by_cases hi : i < acc.length
      · rw [List.getElem?_append_left hi] at hb
        exact h i j (by rw [List.getD_eq_getElem?_getD]; exact hb)
      · rw [List.getElem?_append_right (by omega)] at hb
        by_cases hi2 : i = acc.length
        · subst hi2
          simp at hb
          obtain ⟨e, he, hbi, h1⟩ := bitsOf_spec hb
          rcases h1 with h1 | h1
          · subst h1; exact .one ho he hbi
          · exact .on ho he hbi (h _ _ h1)
        · have : ([bitsOf acc o] : List Nat)[i - acc.length]? = none := by simp; omega
          rw [this] at hb
          simp at hb

theorem rowB_spec {ops : Array Oper} {bs : List Nat} {i : Nat} {o : Oper} {rc : Rec} (hbs : ∀ i j, (bs.getD i 0).testBit j = true → Ordd ops j i) (ho : ops[i]? = some o) : ∀ (l : List Oper) (rs : List Rec) (j : Nat), (∀ k, k < l.length → ops[j + k]? = l[k]?) → rowB ops bs i o rc l rs j = true → l.length = rs.length →
    ∀ q ∈ (List.range' j rs.length).zip rs, Ordd ops i q.1 ∨ ∀ o1 o2, ops[i]? = some o1 → ops[q.1]? = some o2 → Indep ops o1 rc o2 q.2 := by
  intro l
  induction l with
  | nil => intro rs j _ _ hlen q hq; cases rs <;> simp at hlen hq
  | cons o' l ih =>
    intro rs j hl h hlen q hq
    cases rs with
    | nil => simp at hlen
    | cons rc' rs =>
      simp only [rowB, Bool.and_eq_true, Bool.or_eq_true] at h
      rw [List.length_cons, List.range'_succ, List.zip_cons_cons] at hq
      rcases List.mem_cons.1 hq with rfl | hq
      · rcases h.1 with h1 | h1
        · exact .inl (hbs _ _ h1)
        · refine .inr fun o1 o2 h2 h3 => ?_
          rw [ho] at h2; cases h2
          have h4 : ops[j]? = some o' := by simpa using hl 0 (by simp)
          rw [h4] at h3; cases h3
          exact indepB_spec h1
      · exact ih rs (j + 1) (fun k hk => by have := hl (k + 1) (by simpa using hk); rw [← Nat.add_assoc, Nat.add_right_comm] at this; simpa using this) h.2 (by simpa using hlen) q hq

theorem pairsB_spec {ops : Array Oper} {bs : List Nat} (hbs : ∀ i j, (bs.getD i 0).testBit j = true → Ordd ops j i) : ∀ (l : List Oper) (rs : List Rec) (i : Nat), (∀ k, k < l.length → ops[i + k]? = l[k]?) → pairsB ops bs l rs i = true → l.length = rs.length →
    ((List.range' i rs.length).zip rs).Pairwise (fun p q => Ordd ops p.1 q.1 ∨ ∀ o o', ops[p.1]? = some o → ops[q.1]? = some o' → Indep ops o p.2 o' q.2) := by
  intro l
  induction l with
  | nil => intro rs i _ _ hlen; cases rs <;> simp at hlen ⊢
  | cons o l ih =>
    intro rs i hl h hlen
    cases rs with
    | nil => simp at hlen
    | cons rc rs =>
      simp only [pairsB, Bool.and_eq_true] at h
      have hl2 : ∀ k, k < l.length → ops[i + 1 + k]? = l[k]? := fun k hk => by have := hl (k + 1) (by simpa using hk); rw [← Nat.add_assoc, Nat.add_right_comm] at this; simpa using this
      rw [List.length_cons, List.range'_succ, List.zip_cons_cons]
      exact List.pairwise_cons.2 ⟨rowB_spec hbs (by simpa using hl 0 (by simp)) l rs (i + 1) hl2 h.1 (by simpa using hlen), ih rs (i + 1) hl2 h.2 (by simpa using hlen)⟩

theorem runT_chain {P : Program} {ops : Array Oper} : ∀ (l : List Oper) (i : Nat) (s : AS) (K : List Rec → AS → Prop), (∀ k, k < l.length → ops[i + k]? = l[k]?) → (∀ o ∈ l, ∀ d, o.dst = some d → d < PN) → RunT P ops l s K → ∃ rs t, K rs t ∧ rs.length = l.length ∧ Chain P ops s ((List.range' i rs.length).zip rs) t := by
  intro l
  induction l with
  | nil => exact fun i s K _ _ h => ⟨[], s, h, rfl, .nil s⟩
  | cons o l ih =>
    intro i s K hl hdp h
    obtain ⟨e, rd, h1, h2⟩ := h
    obtain ⟨rs, t, hk, hlen, hch⟩ := ih (i + 1) _ _ (fun k hk => by have := hl (k + 1) (by simpa using hk); rw [← Nat.add_assoc, Nat.add_right_comm] at this; simpa using this) (fun o ho => hdp o (by simp [ho])) h2
    refine ⟨_, t, hk, by simp [hlen], ?_⟩
    rw [List.length_cons, List.range'_succ, List.zip_cons_cons]
    refine .cons (by simpa using hl 0 (by simp)) h1 (fun x _ => ge_refl _) (fun t b _ => ge_refl _) (fun n _ => rfl) (fun n hn x hx => AV.kill_names fun hm => hn ?_) (Lk.refl _) (hdp o (by simp)) hch
    exact List.mem_flatMap.2 ⟨x, by simpa using hx, hm⟩

theorem region_any {P : Program} (hm : P.follows .mixedOrders = true) {id : Nat} {ops : Array Oper} {Q : Exit → Act → World → Prop} {c : Ctx} {s : AS} {K : List Rec → AS → Prop} {φ : Nat → Nat × Nat} {a : Act} {w : World} (hd : ∀ o ∈ ops.toList, opOk c o)
    (hrun : RunT P ops ops.toList s K) (hR : R c s φ a w) (hok : ∀ rs t, K rs t → regOk ops rs = true) (hQ : ∀ rs t φ' a' w', K rs t → R c t φ' a' w' → Q .normal a' w') : (Code.region id ops true).wpIn (fz c.rd) 0 P Q a w := by
  have hl : ∀ k, ops[0 + k]? = ops.toList[k]? := fun k => by simp
  obtain ⟨rs, t, hk, hlen, hch⟩ := runT_chain ops.toList 0 s K (fun k _ => hl k) (fun o ho d hd2 => Nat.lt_of_lt_of_le ((hd o ho).1 d hd2) (Nat.le_trans hR.ntv (by decide))) hrun
  have h1 := hok rs t hk
  simp only [regOk, Bool.and_eq_true] at h1
  have hwf := wfB_spec (ops := ops) ops.toList 0 h1.1 hl
  have hbs := befs_spec (ops := ops) ops.toList [] (by simp) (fun i j hb => by simp at hb)
  have hp := pairsB_spec hbs ops.toList rs 0 (fun k _ => hl k) h1.2 hlen.symm
  have hlen2 : ((List.range' 0 rs.length).zip rs).length = ops.size := by simp [hlen]
  have hfst : ∀ i, i < ops.size → ∃ p ∈ (List.range' 0 rs.length).zip rs, p.1 = i := fun i hi => by
    have hi2 : i < rs.length := by rw [hlen]; simpa using hi
    refine ⟨(i, rs[i]), ?_, rfl⟩
    rw [List.mem_iff_getElem]
    exact ⟨i, by simpa using hi2, by simp⟩
  refine wpIn_region_any hm ?_
  refine chain_any (fun i o e ho he hb => by have := hwf i o e (by simpa using ho) he hb; omega) hd (fun φ' a' w' h => hQ rs t φ' a' w' hk h) ops.size _ s φ a _ _ _ hlen2 (by simp) hch hR.drew ?_ (fun i hi => ?_) (fun k o e ho hk2 => ?_) hp (Nat.le_refl _)
  · rw [List.pairwise_iff_getElem]
    intro i j hi hj hij
    simpa using hij
  · constructor
    · exact fun _ => hfst i hi
    · intro _; simp [hi]
  · have hlt := (Array.getElem?_eq_some_iff.1 ho).1
    simp [hlt] at hk2


end Go.Proofs.Ytgjhikjnlcbmkaa

/- Programs on abstract states: calls, loops, the entry and the results of a function. Nothing of the program. -/
namespace Go.Proofs.Ytgjhikjnlcbmkaa
open Go.RowKit

/-! ## Code -/

structure Fam where
  G : Ctx → Prop
  nt : Nat
  rd : Option Nat
  eq : ∀ c, G c → c.nt = nt ∧ c.rd = rd
@[reducible] def one (c : Ctx) : Fam := ⟨(· = c), c.nt, c.rd, by rintro c' rfl; exact ⟨rfl, rfl⟩⟩
@[reducible] def ctx0 (w0 : World) (ok : Nat → Prop) (nt : Nat) : Fam := one (kx w0 ok nt)
def RF (c : Fam) (s : AS) (φ : Nat → Nat × Nat) (a : Act) (w : World) : Prop := ∃ c', c.G c' ∧ R c' s φ a w
theorem RF.one {c : Ctx} {s : AS} {φ : Nat → Nat × Nat} {a : Act} {w : World} : RF (one c) s φ a w ↔ R c s φ a w := ⟨fun ⟨_, h1, h2⟩ => h1 ▸ h2, fun h => ⟨c, rfl, h⟩⟩
theorem RF.weaken {c : Fam} {s t : AS} {φ : Nat → Nat × Nat} {a : Act} {w : World} (h : RF c s φ a w) (hl : s.le t) : RF c t φ a w := let ⟨c', h1, h2⟩ := h; ⟨c', h1, h2.weaken hl⟩
theorem RF.freeze {c : Fam} {s : AS} {φ : Nat → Nat × Nat} {a : Act} {w : World} (h : RF c s φ a w) {nm : Nat} {blk : Blk} (hn : s.mem nm = some blk) : RF c (s.freeze nm blk.cells) φ a w := let ⟨c', h1, h2⟩ := h; ⟨c', h1, h2.freeze hn⟩

structure AWp (P : Program) (c : Fam) (code : Code) (Q : Exit → AS → Prop) (s : AS) : Prop where
  run : ∀ φ a w, RF c s φ a w → code.wpIn (fz c.rd) 0 P (fun e a w => ∃ t φ, Q e t ∧ RF c t φ a w) a w

def ASeq (next : AS → Prop) (Q : Exit → AS → Prop) : Exit → AS → Prop
  | .normal, t => next t
  | e, t => Q e t
def ABlock (id : Nat) (Q : Exit → AS → Prop) : Exit → AS → Prop
  | .exit id', t => if id' = id then Q .normal t else Q (.exit id') t
  | e, t => Q e t

section
variable {P : Program} {c : Fam} {Q : Exit → AS → Prop} {s : AS}

theorem awp_weaken {code : Code} {s' : AS} (h : s.le s') (hw : AWp P c code Q s') : AWp P c code Q s := ⟨fun φ a w hR => hw.run φ a w (hR.weaken h)⟩
theorem awp_freeze {code : Code} (nm : Nat) {blk : Blk} (hn : s.mem nm = some blk) (hw : AWp P c code Q (s.freeze nm blk.cells)) : AWp P c code Q s := ⟨fun φ a w hR => hw.run φ a w (hR.freeze hn)⟩
theorem awp_mono {code : Code} {Q' : Exit → AS → Prop} (h : AWp P c code Q s) (hq : ∀ e t, Q e t → Q' e t) : AWp P c code Q' s := ⟨fun φ a w hR => wpIn_mono (h.run φ a w hR) fun _ _ _ ⟨t, φ, h1, h2⟩ => ⟨t, φ, hq _ _ h1, h2⟩⟩

theorem awp_skip (h : Q .normal s) : AWp P c .skip Q s := ⟨fun φ _ _ hR => wpIn_skip ⟨s, φ, h, hR⟩⟩
theorem awp_exit {id : Nat} (h : Q (.exit id) s) : AWp P c (.exit id) Q s := ⟨fun φ _ _ hR => wpIn_exit ⟨s, φ, h, hR⟩⟩
theorem awp_ret (h : Q .ret s) : AWp P c .ret Q s := ⟨fun φ _ _ hR => wpIn_ret ⟨s, φ, h, hR⟩⟩
theorem awp_seq {x y : Code} (h : AWp P c x (ASeq (AWp P c y Q) Q) s) : AWp P c (.seq x y) Q s := ⟨fun φ a w hR => by
  refine wpIn_seq (wpIn_mono (h.run φ a w hR) fun e a' w' ⟨t, φ', h1, h2⟩ => ?_)
  cases e with
  | normal => exact AWp.run h1 φ' a' w' h2
  | _ => exact ⟨t, φ', h1, h2⟩⟩
theorem awp_cond {cnd : Operand} {x y : Code} {b : Bool} (hc : s.ev cnd = .d (.val (.bool b))) (ht : b = true → AWp P c x Q s) (hf : b = false → AWp P c y Q s) : AWp P c (.cond cnd x y) Q s := ⟨fun φ a w hR => by
  obtain ⟨c', hG, hR1⟩ := id hR
  have h1 := hR1.ev cnd
  rw [hc] at h1
  have h2 : a.eval cnd = .bool b := (rep_val (ok := okOf c' φ s) (w := w)).1 h1
  cases b with
  | true => exact wpIn_cond_true h2 ((ht rfl).run φ a w hR)
  | false => exact wpIn_cond_false h2 ((hf rfl).run φ a w hR)⟩
theorem awp_block {id : Nat} {x : Code} (h : AWp P c x (ABlock id Q) s) : AWp P c (.block id x) Q s := ⟨fun φ a w hR => by
  refine wpIn_block (wpIn_mono (h.run φ a w hR) fun e a' w' ⟨t, φ', h1, h2⟩ => ?_)
  cases e with
  | exit id' =>
    by_cases hid : id' = id
    · simp only [ABlock, hid, if_true] at h1
      simp only [Exit.inBlock, hid, if_true]
      exact ⟨t, φ', h1, h2⟩
    · simp only [ABlock, hid, if_false] at h1
      simp only [Exit.inBlock, hid, if_false]
      exact ⟨t, φ', h1, h2⟩
  | _ => exact ⟨t, φ', h1, h2⟩⟩

def dstsB (nt : Nat) : List Oper → Bool
  | [] => true
  | o :: l => (match o.dst with | some d => Nat.blt d nt | none => true) && ((match o.op with | .defer _ => false | _ => true) && dstsB nt l)
theorem dstsB_spec {c : Ctx} : ∀ (l : List Oper), dstsB c.nt l = true → ∀ o ∈ l, opOk c o := by
  intro l
  induction l with
  | nil => intro _ o ho; cases ho
  | cons x l ih =>
    intro h o ho
    simp only [dstsB, Bool.and_eq_true] at h
    rcases List.mem_cons.1 ho with rfl | ho
    · refine ⟨fun d hd => ?_, fun d hd => ?_⟩
      · have h1 := h.1
        rw [hd] at h1
        exact Nat.le_of_ble_eq_true h1
      · have h1 := h.2.1
        rw [hd] at h1; cases h1
    · exact ih h.2.2 o ho

theorem awp_region {id : Nat} {l : List Oper} (hd : dstsB c.nt l = true) (h : RunT P l.toArray l s fun _ t => Q .normal t) : AWp P c (.region id l.toArray false) Q s := ⟨fun φ a w hR => by
  obtain ⟨c', hG, hR⟩ := hR
  rw [← (c.eq _ hG).2]
  exact region_text (dstsB_spec l.toArray.toList (by rw [(c.eq _ hG).1]; simpa using hd)) (by simpa using h) hR fun _ t φ' _ _ h1 h2 => ⟨t, φ', h1, c', hG, h2⟩⟩
theorem awp_region_any (hm : P.follows .mixedOrders = true) {id : Nat} {l : List Oper} (hd : dstsB c.nt l = true) (h : RunT P l.toArray l s fun rs t => regOk l.toArray rs = true ∧ Q .normal t) : AWp P c (.region id l.toArray true) Q s := ⟨fun φ a w hR => by
  obtain ⟨c', hG, hR⟩ := hR
  rw [← (c.eq _ hG).2]
  exact region_any hm (K := fun rs t => regOk l.toArray rs = true ∧ Q .normal t) (dstsB_spec l.toArray.toList (by rw [(c.eq _ hG).1]; simpa using hd)) (by simpa using h) hR (fun _ _ h => h.1) fun _ t φ' _ _ h1 h2 => ⟨t, φ', h1.2, c', hG, h2⟩⟩

theorem awp_loop {α : Type} {body : Code} (st : α → AS) (I : α → Prop) (μ : α → Nat) (x0 : α) (hI : I x0) (h0 : s.le (st x0))
    (round : ∀ x, I x → AWp P c body (ASeq (fun t => ∃ y, I y ∧ μ y < μ x ∧ t.le (st y)) Q) (st x)) : AWp P c (.loop body) Q s := by
  refine ⟨fun φ a w hR b k cs hro hb hr => ?_⟩
  have key : ∀ n x φ a w, μ x = n → I x → RF c (st x) φ a w →
      ∃ e a' w', (∃ t φ, Q e t ∧ RF c t φ a' w') ∧ ArrivesIn (Machine.fenced P (fz c.rd)) P (lone (b.atR a (.code body :: .inLoop body :: k)) cs w) b k cs e a' w' := by
    intro n
    induction n using Nat.strongRecOn with
    | _ n ih =>
      intro x φ a w hn hIx hRx
      obtain ⟨e, a₁, w₁, ⟨t, φ₁, hq, hR₁⟩, harr⟩ := (round x hIx).run φ a w hRx b (.inLoop body :: k) cs hro hb hr
      cases e with
      | normal =>
        obtain ⟨y, hIy, hlt, hle⟩ := hq
        obtain ⟨e₂, a₂, w₂, hq₂, harr₂⟩ := ih (μ y) (hn ▸ hlt) y φ₁ a₁ w₁ rfl hIy (hR₁.weaken hle)
        exact ⟨e₂, a₂, w₂, hq₂, .of_steps (StepsIn.trans harr (.one (fenced_calm hb hr rfl) stepR_inLoop)) harr₂⟩
      | exit id => exact ⟨_, a₁, w₁, ⟨t, φ₁, hq, hR₁⟩, .pass (x := .inLoop body) rfl (fun _ _ => .inl (by simp)) harr⟩
      | goto l => exact ⟨_, a₁, w₁, ⟨t, φ₁, hq, hR₁⟩, .pass (x := .inLoop body) rfl (fun _ _ => .inl (by simp)) harr⟩
      | ret => exact ⟨_, a₁, w₁, ⟨t, φ₁, hq, hR₁⟩, .pass (x := .inLoop body) rfl (fun _ _ => .inl (by simp)) harr⟩
      | panic ch => exact ⟨_, a₁, w₁, ⟨t, φ₁, hq, hR₁⟩, .pass (x := .inLoop body) rfl (fun _ _ => .inl (by simp)) harr⟩
      | outgrown => exact ⟨_, a₁, w₁, ⟨t, φ₁, hq, hR₁⟩, .pass (x := .inLoop body) rfl (fun _ _ => .inl (by simp)) harr⟩
  obtain ⟨e, a', w', hq, harr⟩ := key _ x0 φ a w rfl hI (hR.weaken h0)
  exact ⟨e, a', w', hq, .of_steps (.one (fenced_calm hb hr rfl) stepR_loop) harr⟩
end

/-! ## Types -/

def tyOf (P : Program) (t : TypeId) : Option (Bool × Nat) :=
  match P.underlying t, P.info? t with
  | some d, some i => some ((match d with | .struct _ | .array _ _ => true | _ => false), i.size)
  | _, _ => none
class TyI (P : Program) (t : TypeId) (g : outParam Bool) (n : outParam Nat) : Prop where
  eq : tyOf P t = some (g, n)

theorem tyOf_runs {P : Program} {t : TypeId} {g : Bool} {n : Nat} (h : tyOf P t = some (g, n)) (w : World) : (isAgg t).run P w = .ok g w ∧ (sizeOf t).run P w = .ok n w := by
  unfold tyOf at h
  cases hu : P.underlying t with
  | none => simp [hu] at h
  | some d =>
    cases hi : P.info? t with
    | none => simp [hu, hi] at h
    | some i =>
      simp only [hu, hi, Option.some.injEq, Prod.mk.injEq] at h
      obtain ⟨h1, h2⟩ := h
      constructor
      · unfold isAgg
        rw [Sem.run_bind, run_underlying hu w]
        cases d <;> simp_all
      · simp [sizeOf, typeInfo, hi, h2]

inductive LoadOf (P : Program) (t : TypeId) (cs : List DV) : DV → Prop
  | agg {n} (h : tyOf P t = some (true, n)) (hn : n ≤ cs.length) : LoadOf P t cs (.agg (cs.take n))
  | one {n x} (h : tyOf P t = some (false, n)) (hx : cs[0]? = some x) : LoadOf P t cs x

theorem run_loadVar {P : Program} {t : TypeId} {ok : Nat → Prop} {w : World} {cs : List DV} {vs : List Value} {r : DV} {b o : Nat} (hl : LoadOf P t cs r) (hc : CellsAt w b o vs) (ho : Ones vs) (hr : DV.repL ok w cs vs) :
    ∃ v, (loadVar t ⟨b, o, none⟩).run P w = .ok v w ∧ r.rep ok w v := by
  cases hl with
  | @agg n h hn =>
    obtain ⟨h1, h2⟩ := tyOf_runs h w
    have hlen := repL_length hr
    have hlc : (loadCells ⟨b, o, none⟩ n).run P w = .ok (vs.take n).toArray w := by
      have := run_loadCells_list (P := P) w ⟨b, o, none⟩ (vs.take n) (at_add (b := b) (o := o) fun j u hj => hc j u (by
        rw [List.getElem?_take] at hj
        split at hj
        · exact hj
        · cases hj))
      rw [List.length_take, Nat.min_eq_left (by omega)] at this
      exact this
    refine ⟨.agg (vs.take n).toArray, ?_, ?_⟩
    · simp only [loadVar, Sem.run_bind, h1, Result.andThen_ok, if_true, h2, hlc, Sem.run_pure]
    · rw [DV.rep]
      exact ⟨vs.take n, rfl, fun u hu => ho u (List.mem_of_mem_take hu), repL_take hr n⟩
  | @one n x h hx =>
    obtain ⟨h1, _⟩ := tyOf_runs h w
    obtain ⟨u, hu, hru⟩ := repL_get hr hx
    have hcell : w.cell? ⟨b, o, none⟩ = some u := hc 0 u hu
    refine ⟨u, ?_, hru⟩
    simp only [loadVar, Sem.run_bind, h1, Result.andThen_ok, Bool.false_eq_true, if_false, run_load, hcell]

/-! ## Calls -/

def AC (P : Program) (f : FuncId) (args : List DV) (r : DV) : Prop :=
  ∀ (ok : Nat → Prop) (w : World) (vs : List Value), DV.repL ok w args vs → ∀ [GlobI w], Calls P f vs.toArray w fun e w' => ∃ v, e = .returned v ∧ r.rep (fun b => ok b ∨ w.heap.size ≤ b) w' v ∧ Below w.heap.size w w'
def ACo (P : Program) (f : FuncId) (args : List DV) (t : TypeId) (n sz : Nat) (cs : List DV) : Prop :=
  ∀ (ok : Nat → Prop) (w : World) (vs : List Value), DV.repL ok w args vs → ∀ [GlobI w], Calls P f vs.toArray w fun e w' => ∃ g cap, e = .returned (.slice (some ⟨g, 0, none⟩) n cap) ∧ w.heap.size ≤ g ∧ n ≤ cap ∧ cap ≤ maxLen ∧
    BlkAt (fun b => ok b ∨ (w.heap.size ≤ b ∧ b ≠ g)) w' (g, cap * sz) ⟨t, cs⟩ ∧ Below w.heap.size w w'

theorem AC.of_own {P : Program} {f : FuncId} {args : List DV} {t : TypeId} {n sz : Nat} {cs : List DV} (h : ACo P f args t n sz cs) : AC P f args (.slice n cs) := fun ok w vs hr _ => (h ok w vs hr).mono fun e w' ⟨g, cap, he, hg, h1, h2, ⟨us, ex, hh, hl, ho, hrr⟩, hb⟩ => by
  refine ⟨_, he, ?_, hb⟩
  rw [DV.rep]
  refine ⟨_, cap, rfl, h1, h2, fun _ => ⟨g, 0, us, rfl, .inr hg, (Array.getElem?_eq_some_iff.1 hh).1, ?_, ho, DV.repL_keeps (Keeps.wide fun b hb _ => hb.imp id fun h => h.1) _ _ hrr⟩⟩
  have := cellsAt_of_heap hh 0 us.length
  simpa using this

/-! ## The entry and the results -/

@[reducible] def entry (args : List DV) : AS := ⟨fun i => .d (args[i]?.getD .any), fun _ => none⟩

def ResL (P : Program) (s : AS) : List ResultVar → List DV → Prop
  | [], ds => ds = []
  | .tmp t :: l, ds => ∃ d ds', ds = d :: ds' ∧ (s.ev (.tmp t) = .d d ∨ ∃ nm off len sz blk, s.ev (.tmp t) = .lsl nm off len sz ∧ s.mem nm = some blk ∧ d = .slice len ((blk.cells.drop off).take (len * sz))) ∧ ResL P s l ds'
  | .cell t ty :: l, ds => ∃ d ds', ds = d :: ds' ∧ (∃ nm off blk, s.ev (.tmp t) = .ptr nm off ∧ s.mem nm = some blk ∧ LoadOf P ty (blk.cells.drop off) d) ∧ ResL P s l ds'
def resDV : List DV → DV
  | [x] => x
  | xs => .tuple xs
def ARet (P : Program) (rs : List ResultVar) (r : DV) : Exit → AS → Prop
  | .normal, s | .ret, s => ∃ ds, ResL P s rs ds ∧ r = resDV ds
  | _, _ => False

theorem R.load {P : Program} {c : Ctx} {s : AS} {φ : Nat → Nat × Nat} {a : Act} {w : World} (h : R c s φ a w) {nm off : Nat} {blk : Blk} (hn : s.mem nm = some blk) {t : TypeId} {r : DV} (hl : LoadOf P t (blk.cells.drop off) r) :
    ∃ v, (loadVar t ⟨(φ nm).1, off, none⟩).run P w = .ok v w ∧ r.rep (okOf c φ s) w v := by
  obtain ⟨vs, ex, hh, hlen, ho, hr⟩ := h.mem nm blk hn
  refine run_loadVar hl (vs := vs.drop off) ?_ (fun u hu => ho u (List.mem_of_mem_drop hu)) (repL_drop hr off)
  have := cellsAt_of_heap hh off (vs.drop off).length
  rwa [List.take_length] at this

theorem results_run {P : Program} {c : Ctx} {s : AS} {φ : Nat → Nat × Nat} {a : Act} {w : World} (h : R c s φ a w) (hex : ∀ b, ¬ c.ex b) : ∀ (rs : List ResultVar) (ds : List DV), ResL P s rs ds →
    ∃ vs, ((rs.mapM (m := Sem) fun | .tmp t => pure (a.tmps.getD t undef) | .cell x t => do loadVar t (← asAddr (a.tmps.getD x undef)))).run P w = .ok vs w ∧ DV.repL (fun b => okOf c φ s b ∨ c.w0.heap.size ≤ b) w ds vs := by
  intro rs
  have hwide : Keeps (okOf c φ s) w (fun b => okOf c φ s b ∨ c.w0.heap.size ≤ b) w := Keeps.wide fun b hb _ => .inl hb
  induction rs with
  | nil => intro ds hd; simp only [ResL] at hd; subst hd; exact ⟨[], by simp, repL_nil.2 rfl⟩
  | cons x l ih =>
    intro ds hd
    cases x with
    | tmp t =>
      obtain ⟨d, ds', rfl, hf, hl⟩ := hd
      obtain ⟨vs, hrun, hr⟩ := ih ds' hl
      have h1 : DV.rep (fun b => okOf c φ s b ∨ c.w0.heap.size ≤ b) w d (a.tmps.getD t undef) := by
        have h1 := h.ev (.tmp t)
        rcases hf with hf | ⟨nm, off, len, sz, blk, hf, hm, rfl⟩
        · rw [hf] at h1; exact DV.rep_keeps hwide _ _ h1
        · rw [hf] at h1; exact h.slice_of_own hm (.inr ((h.own nm blk hm).resolve_right (hex _))) (fun b hb => .inl hb) h1
      refine ⟨a.tmps.getD t undef :: vs, ?_, repL_cons'.2 ⟨h1, hr⟩⟩
      rw [List.mapM_cons]
      simp only [Sem.run_bind, Sem.run_pure, Result.andThen_ok, hrun]
    | cell t ty =>
      obtain ⟨d, ds', rfl, ⟨nm, off, blk, hf, hm, hlo⟩, hl⟩ := hd
      obtain ⟨vs, hrun, hr⟩ := ih ds' hl
      have h1 := h.ev (.tmp t)
      rw [hf] at h1
      obtain ⟨v, hv, hrv⟩ := h.load hm hlo
      refine ⟨v :: vs, ?_, repL_cons'.2 ⟨DV.rep_keeps hwide _ _ hrv, hr⟩⟩
      rw [List.mapM_cons]
      have h2 : a.tmps.getD t undef = .pointer (some ⟨(φ nm).1, off, none⟩) := h1
      have hA : (asAddr (.pointer (some ⟨(φ nm).1, off, none⟩))).run P w = .ok ⟨(φ nm).1, off, none⟩ w := rfl
      simp only [h2, Sem.run_bind, hA, Sem.run_pure, Result.andThen_ok, hrun, hv]

theorem R.unmark1 {c : Ctx} {s : AS} {φ : Nat → Nat × Nat} {a : Act} {w : World} (h : R c s φ a w) {D : Nat} {Ds : List Nat} (hd : a.defers = (D :: Ds).map (fun D => { target := .collected D, args := #[] })) (hnd : (D :: Ds).Nodup)
    (hall : ∀ E ∈ D :: Ds, MkB c E ∧ w.heap[E]? = some (.deferred (some []))) : R c s φ { a with defers := Ds.map (fun D => { target := .collected D, args := #[] }) } (w.putObj D (.deferred none)) := by
  obtain ⟨hD0, hD⟩ := hall D (by simp)
  have hlt := (Array.getElem?_eq_some_iff.1 hD).1
  have hoth : ∀ k, k ≠ D → (w.putObj D (.deferred none)).heap[k]? = w.heap[k]? := fun k hk => World.putObj_heap_other hk
  have hsz : (w.putObj D (.deferred none)).heap.size = w.heap.size := by simp [World.putObj]
  have hk : Keeps (okOf c φ s) w (okOf c φ s) (w.putObj D (.deferred none)) := by
    refine ⟨fun _ hb _ => hb, by rw [hsz]; exact Nat.le_refl _, fun b o u _ _ hc => ?_⟩
    by_cases e : b = D
    · subst e
      obtain ⟨ob, h1, h2⟩ := cells_of_cell hc
      rw [hD] at h1; cases h1; cases h2
    · exact (World.cell?_of_block (a := ⟨b, o, none⟩) (hoth b e)).trans hc
  refine ⟨⟨h.below.os, h.below.tape, h.below.output, by rw [hsz]; exact h.below.size, fun k hk he => (hoth k (by have := hD0.2; omega)).trans (h.below.block k hk he), h.below.gl⟩, ⟨Ds, rfl, (List.nodup_cons.1 hnd).2, fun E hE => ?_⟩, h.size, h.ntv, fun i hi => AV.rep_keeps hk (h.fr i hi), h.own,
    fun nm blk hn => (h.mem nm blk hn).keeps hk (hoth _ (fun e => h.mark_ne hn hD e.symm)), h.inj, fun k hk2 => ?_⟩
  · have hne : E ≠ D := fun e => (List.nodup_cons.1 hnd).1 (e ▸ hE)
    exact ⟨(hall E (by simp [hE])).1, (hoth E hne).trans (hall E (by simp [hE])).2⟩
  · obtain ⟨K, h1, h2, h3, h4⟩ := h.gh k hk2
    refine ⟨K, c.st k K w _ h1 rfl rfl rfl (by rw [hsz]; exact Nat.le_refl _) fun b hb => hoth b fun e => h4 D (by rw [hd]; simp) (e ▸ hb), h2, fun b hb => by rw [hsz]; exact h3 b hb, fun E hE => h4 E ?_⟩
    rw [hd, List.map_cons]; exact List.mem_cons_of_mem _ hE
theorem R.finish {c : Ctx} {s : AS} {φ : Nat → Nat × Nat} {P : Program} {fn : Func} {K : Ending → World → Prop} : ∀ (Ds : List Nat) (a : Act) (w : World), R c s φ a w → a.defers = Ds.map (fun D => { target := .collected D, args := #[] }) → Ds.Nodup →
    (∀ E ∈ Ds, MkB c E ∧ w.heap[E]? = some (.deferred (some []))) → (∀ w2, R c s φ { a with defers := [] } w2 → ∃ v, (results fn a.tmps).run P w2 = .ok v w2 ∧ K (.returned v) w2) → LeavesInM Fence.wide 0 P fn a.tmps K a.defers .returning w
  | [], a, w, h, hd, _, _, hK => by
    rw [hd]
    have h2 : R c s φ { a with defers := [] } w := by
      have : ({ a with defers := [] } : Act) = a := by cases a; simp at hd; simp [hd]
      rw [this]; exact h
    exact hK w h2
  | D :: Ds, a, w, h, hd, hnd, hall, hK => by
    have hD := (hall D (by simp)).2
    have h1 := h.unmark1 hd hnd hall
    have ht := run_takeDeferred (P := P) hD
    rw [hd]
    refine ⟨by simp, .inl ⟨D, _, rfl, ht, ?_⟩⟩
    have hne : ∀ E ∈ Ds, E ≠ D := fun E hE e => (List.nodup_cons.1 hnd).1 (e ▸ hE)
    exact R.finish Ds { a with defers := Ds.map (fun D => { target := .collected D, args := #[] }) } _ h1 rfl (List.nodup_cons.1 hnd).2 (fun E hE => ⟨(hall E (by simp [hE])).1, (World.putObj_heap_other (hne E hE)).trans (hall E (by simp [hE])).2⟩) hK
theorem R.leaves {c : Ctx} {s : AS} {φ : Nat → Nat × Nat} {P : Program} {fn : Func} {K : Ending → World → Prop} {a : Act} {w : World} (h : R c s φ a w) (hK : ∀ w2, R c s φ { a with defers := [] } w2 → ∃ v, (results fn a.tmps).run P w2 = .ok v w2 ∧ K (.returned v) w2) : LeavesInM Fence.wide 0 P fn a.tmps K a.defers .returning w := by
  obtain ⟨Ds, h1, h2, h3⟩ := h.defers
  exact R.finish Ds a w h h1 h2 h3 hK

theorem entry_R {c : Ctx} {fnt : Nat} {args : List DV} {vs : List Value} (hc : c.nt = fnt) (hn : (Nat.ble args.length fnt && Nat.ble fnt VG) = true) (hok : ∀ b, b < c.w0.heap.size → c.ok b → ¬ c.ex b) (hr : DV.repL c.ok c.w0 args vs) (hgv : ∀ i, c.gv i = undef) (hgl : Glob c.w0) (hge : ∀ b, GBlk b → ¬ c.ex b) :
    R c (entry args) (fun _ => (0, 0)) { tmps := vs.toArray ++ Array.replicate (fnt - vs.toArray.size) undef, defers := [] } c.w0 := by
  simp only [Bool.and_eq_true, Nat.ble_eq] at hn
  obtain ⟨hn1, hn2⟩ := hn
  have hlen := repL_length hr
  have hk : Keeps c.ok c.w0 (okOf c (fun _ => (0, 0)) (entry args)) c.w0 := Keeps.wide fun b hb hl => .inl ⟨hl, hb, hok b hl hb⟩
  refine ⟨BelowX.refl hgl hge, ⟨[], rfl, List.nodup_nil, fun D hD => by cases hD⟩, by simp; omega, by rw [hc]; exact hn2, fun i hiV => ?_, fun nm blk hm => (by cases hm), fun nm blk hm => (by cases hm), fun n m hn => absurd rfl hn, fun k hk2 => ?_⟩
  · show ((args[i]?).getD .any).rep _ c.w0 _
    cases hi : args[i]? with
    | none => simp only [Option.getD_none, DV.rep]
    | some x =>
      obtain ⟨u, hu, hru⟩ := repL_get hr hi
      have hlt := (List.getElem?_eq_some_iff.1 hu).1
      have hit : i < VG := by omega
      rw [slotAt_lt hit]
      have : (vs.toArray ++ Array.replicate (fnt - vs.toArray.size) undef).getD i undef = u := by
        rw [Array.getD_eq_getD_getElem?, Array.getElem?_append_left (by simpa using hlt)]
        simp [hu]
      simp only [this, Option.getD_some]
      exact DV.rep_keeps hk _ _ hru
  · exfalso
    have e : (entry args).fr VG = .d ((args[VG]?).getD .any) := rfl
    rw [e, List.getElem?_eq_none (by omega)] at hk2
    cases hk2

theorem ac_body {P : Program} {f : FuncId} {fn : Func} {code : Code} {args : List DV} {r : DV} (hf : P.funcs[f]? = some fn) (hb : fn.body = some code) (hn : (Nat.ble args.length fn.ntmps && Nat.ble fn.ntmps VG) = true) (h : ∀ w0 ok, AWp P (ctx0 w0 ok fn.ntmps) code (ARet P fn.results.toList r) (entry args)) : AC P f args r := by
  intro ok w vs hr hgl
  refine callsIn_wide.1 (callsIn_of_wp_marks (F := Fence.wide) (n := 0) hf hb trivial ?_)
  have hR : R (kx w ok fn.ntmps) (entry args) (fun _ => (0, 0)) { tmps := vs.toArray ++ Array.replicate (fn.ntmps - vs.toArray.size) undef, defers := [] } w := entry_R rfl hn (fun _ _ _ h => h) hr (fun _ => rfl) hgl.is (fun _ _ h => h)
  refine wpIn_mono ((h w ok).run _ _ _ (RF.one.2 hR)) fun e a w' ⟨t, φ, hq, hR'⟩ => ?_
  replace hR' := RF.one.1 hR'
  have fin : (∃ ds, ResL P t fn.results.toList ds ∧ r = resDV ds) → LeavesInM Fence.wide 0 P fn a.tmps (fun e w' => ∃ v, e = .returned v ∧ r.rep (fun b => ok b ∨ w.heap.size ≤ b) w' v ∧ Below w.heap.size w w') a.defers .returning w' := by
    rintro ⟨ds, hres, rfl⟩
    refine hR'.leaves fun w2 hR2 => ?_
    obtain ⟨us, hrun, hru⟩ := results_run hR2 (fun _ h => h) _ _ hres
    have hk : Keeps (fun b => okOf (kx w ok fn.ntmps) φ t b ∨ w.heap.size ≤ b) w2 (fun b => ok b ∨ w.heap.size ≤ b) w2 := Keeps.wide fun b hb _ => by
      rcases hb with hb | hb
      · rcases hb with hb | hb
        · exact .inl hb.2.1
        · exact .inr (hb.1.resolve_right fun h => h)
      · exact .inr hb
    have hru2 := DV.repL_keeps hk _ _ hru
    have hl := repL_length hru
    refine ⟨if us.length = 1 then us[0]?.getD undef else .tuple us.toArray, ?_, _, rfl, ?_, hR2.below.all fun _ h => h⟩
    · have hmap : (fn.results.mapM (m := Sem) fun | .tmp t => pure (a.tmps.getD t undef) | .cell x t => do loadVar t (← asAddr (a.tmps.getD x undef))).run P w2 = .ok us.toArray w2 := by
        rw [← Array.toArray_toList (xs := fn.results), List.mapM_toArray, Sem.run_map]
        exact congrArg (fun r => Result.andThen r _) hrun
      unfold results
      rw [Sem.run_bind]
      refine (congrArg (fun r => Result.andThen r _) hmap).trans ?_
      simp only [Result.andThen_ok, Sem.run_pure]
      congr 1
      by_cases h1 : us.length = 1
      · simp [h1]
      · simp [h1]
    · match ds, us, hl, hru2 with
      | [], us, hl, hru2 =>
        have : us = [] := List.eq_nil_of_length_eq_zero (by simpa using hl)
        subst this
        simp only [resDV, DV.rep]
        exact ⟨[], by simp, hru2⟩
      | [x], us, hl, hru2 =>
        obtain ⟨u, us', rfl, h1, h2⟩ := repL_cons.1 hru2
        rw [repL_nil] at h2; subst h2
        simpa [resDV] using h1
      | x :: y :: ds, us, hl, hru2 =>
        have : ¬ us.length = 1 := by simp at hl; omega
        rw [if_neg this]
        simp only [resDV, DV.rep]
        exact ⟨us, rfl, hru2⟩
  cases e with
  | normal => exact fin hq
  | ret => exact fin hq
  | exit id => exact hq.elim
  | goto l => exact hq.elim
  | panic ch => exact hq.elim
  | outgrown => exact hq.elim

end Go.Proofs.Ytgjhikjnlcbmkaa

/- What each operation does to an abstract state. Nothing of the program. -/
namespace Go.Proofs.Ytgjhikjnlcbmkaa
open Go.RowKit

section
variable {P : Program} {s : AS}

def Pure (P : Program) (o : Oper) (s : AS) (r : AV) : Prop :=
  ∀ (c : Ctx) (s' : AS) (φ : Nat → Nat × Nat) (a : Act) (w : World), R c s' φ a w → (∀ x ∈ o.op.operands, ge (s'.ev x) (s.ev x)) → ∃ v, (execOp a.eval o).run P w = .ok (.value v) w ∧ r.rep (okOf c φ s') φ w v

theorem does_pure {o : Oper} {r : AV} (h : Pure P o s r) : Does P o s [] (.put r) := ⟨fun c s' φ a w K Q hR hop _ hd _ hK => by
  obtain ⟨v, hrun, hr⟩ := h c s' φ a w hR hop
  unfold Oper.wp
  rw [hrun]
  exact hK _ _ _ (hR.put hd hr)
  ⟩

theorem ge_val {x : AV} {u : Value} {c : Ctx} {s' : AS} {φ : Nat → Nat × Nat} {a : Act} {w : World} (hR : R c s' φ a w) {y : Operand} (h : ge (s'.ev y) x) (hx : x = .d (.val u)) : a.eval y = u := by
  have h1 := hR.ev y
  rcases h with h | h
  · rw [h, hx] at h1; exact (rep_val (ok := okOf c φ s') (w := w)).1 h1
  · rw [hx] at h; cases h
theorem ge_d {x : AV} {u : DV} {c : Ctx} {s' : AS} {φ : Nat → Nat × Nat} {a : Act} {w : World} (hR : R c s' φ a w) {y : Operand} (h : ge (s'.ev y) x) (hx : x = .d u) : u.rep (okOf c φ s') w (a.eval y) := by
  have h1 := hR.ev y
  rcases h with h | h
  · rw [h, hx] at h1; exact h1
  · rw [hx] at h; injection h with h; subst h; rw [DV.rep]; trivial
theorem ge_ptr {x : AV} {nm off : Nat} {c : Ctx} {s' : AS} {φ : Nat → Nat × Nat} {a : Act} {w : World} (hR : R c s' φ a w) {y : Operand} (h : ge (s'.ev y) x) (hx : x = .ptr nm off) : a.eval y = .pointer (some ⟨(φ nm).1, off, none⟩) := by
  have h1 := hR.ev y
  rcases h with h | h
  · rw [h, hx] at h1; exact h1
  · rw [hx] at h; cases h
theorem ge_lsl {x : AV} {nm off len sz : Nat} {c : Ctx} {s' : AS} {φ : Nat → Nat × Nat} {a : Act} {w : World} (hR : R c s' φ a w) {y : Operand} (h : ge (s'.ev y) x) (hx : x = .lsl nm off len sz) : (AV.lsl nm off len sz).rep (okOf c φ s') φ w (a.eval y) := by
  have h1 := hR.ev y
  rcases h with h | h
  · rw [h, hx] at h1; exact h1
  · rw [hx] at h; cases h
theorem ge_rep {x : AV} {c : Ctx} {s' : AS} {φ : Nat → Nat × Nat} {a : Act} {w : World} (hR : R c s' φ a w) {y : Operand} (h : ge (s'.ev y) x) : x.rep (okOf c φ s') φ w (a.eval y) := by
  have h1 := hR.ev y
  rcases h with h | h
  · rw [h] at h1; exact h1
  · rw [h]; simp only [AV.rep, DV.rep]

variable {ty : TypeId} {ps : String} {af : Array Edge} {gd : Option (Nat × Bool)} {dst : Option Tmp}

theorem does_move (x : Operand) : Does P ⟨dst, .move x, ty, ps, af, gd⟩ s [] (.put (s.ev x)) :=
  does_pure fun c s' φ a w hR hop => ⟨a.eval x, rfl, ge_rep hR (hop x (by simp [Op.operands]))⟩
theorem does_assign (x : Operand) : Does P ⟨dst, .assign x, ty, ps, af, gd⟩ s [] (.put (s.ev x)) :=
  does_pure fun c s' φ a w hR hop => ⟨a.eval x, rfl, ge_rep hR (hop x (by simp [Op.operands]))⟩

theorem does_bin {op : BinOp} {t t' : TypeId} {x y : Operand} {u v r : Value} (hx : s.ev x = .d (.val u)) (hy : s.ev y = .d (.val v)) (hrun : ∀ w, (do eqGuard op t x y u v; binOp op t u v).run P w = .ok r w) : Does P ⟨dst, .binOp op t x y t', ty, ps, af, gd⟩ s [] (.put (.d (.val r))) :=
  does_pure fun c s' φ a w hR hop => by
    have h1 := ge_val hR (hop x (by simp [Op.operands])) hx
    have h2 := ge_val hR (hop y (by simp [Op.operands])) hy
    refine ⟨r, ?_, (rep_val (ok := okOf c φ s') (w := w)).2 rfl⟩
    have := hrun w
    simp only [execOp, h1, h2, Sem.run_bind, Sem.run_pure, this, Result.andThen_ok] at this ⊢
theorem eqGuard_int {op : BinOp} {t : TypeId} {x y : Operand} {k k' : IntKind} {a b : Int} {w : World} : (eqGuard op t x y (.int k a) (.int k' b)).run P w = .ok () w := by
  unfold eqGuard; cases op <;> rfl
theorem bin_run {op : BinOp} {t : TypeId} {x y : Operand} {k : IntKind} {a b : Int} {r : Value} (h : ∀ w, (binOp op t (.int k a) (.int k b)).run P w = .ok r w) : ∀ w, (do eqGuard op t x y (.int k a) (.int k b); binOp op t (.int k a) (.int k b)).run P w = .ok r w := fun w => by
  rw [Sem.run_bind, eqGuard_int, Result.andThen_ok, h w]

variable {t t' : TypeId} {x y : Operand} {k : IntKind} {a b : Int}
theorem does_add (hx : s.ev x = .d (.val (.int k a))) (hy : s.ev y = .d (.val (.int k b))) {r : Int} (hr : k.wrap (a + b) = r) : Does P ⟨dst, .binOp .add t x y t', ty, ps, af, gd⟩ s [] (.put (.d (.val (.int k r)))) :=
  does_bin hx hy (bin_run fun w => by subst hr; simp [binOp, Op.intArith])
theorem does_sub (hx : s.ev x = .d (.val (.int k a))) (hy : s.ev y = .d (.val (.int k b))) {r : Int} (hr : k.wrap (a - b) = r) : Does P ⟨dst, .binOp .sub t x y t', ty, ps, af, gd⟩ s [] (.put (.d (.val (.int k r)))) :=
  does_bin hx hy (bin_run fun w => by subst hr; simp [binOp, Op.intArith])
theorem does_mul (hx : s.ev x = .d (.val (.int k a))) (hy : s.ev y = .d (.val (.int k b))) {r : Int} (hr : k.wrap (a * b) = r) : Does P ⟨dst, .binOp .mul t x y t', ty, ps, af, gd⟩ s [] (.put (.d (.val (.int k r)))) :=
  does_bin hx hy (bin_run fun w => by subst hr; simp [binOp, Op.intArith])
theorem does_quo (hx : s.ev x = .d (.val (.int k a))) (hy : s.ev y = .d (.val (.int k b))) (hb : b ≠ 0) {r : Int} (hr : k.wrap (a.tdiv b) = r) : Does P ⟨dst, .binOp .quo t x y t', ty, ps, af, gd⟩ s [] (.put (.d (.val (.int k r)))) :=
  does_bin hx hy (bin_run fun w => by subst hr; simp [binOp, Op.intDiv, hb])
theorem does_rem (hx : s.ev x = .d (.val (.int k a))) (hy : s.ev y = .d (.val (.int k b))) (hb : b ≠ 0) {r : Int} (hr : a.tmod b = r) : Does P ⟨dst, .binOp .rem t x y t', ty, ps, af, gd⟩ s [] (.put (.d (.val (.int k r)))) :=
  does_bin hx hy (bin_run fun w => by subst hr; simp [binOp, Op.intDiv, hb])
theorem does_lss (hx : s.ev x = .d (.val (.int k a))) (hy : s.ev y = .d (.val (.int k b))) : Does P ⟨dst, .binOp .lss t x y t', ty, ps, af, gd⟩ s [] (.put (.d (.val (.bool (decide (a < b)))))) :=
  does_bin hx hy (bin_run fun w => by simp [binOp, Op.intCmp])
theorem does_leq (hx : s.ev x = .d (.val (.int k a))) (hy : s.ev y = .d (.val (.int k b))) : Does P ⟨dst, .binOp .leq t x y t', ty, ps, af, gd⟩ s [] (.put (.d (.val (.bool (decide (a ≤ b)))))) :=
  does_bin hx hy (bin_run fun w => by simp [binOp, Op.intCmp])
theorem does_gtr (hx : s.ev x = .d (.val (.int k a))) (hy : s.ev y = .d (.val (.int k b))) : Does P ⟨dst, .binOp .gtr t x y t', ty, ps, af, gd⟩ s [] (.put (.d (.val (.bool (decide (b < a)))))) :=
  does_bin hx hy (bin_run fun w => by simp [binOp, Op.intCmp])
theorem does_geq (hx : s.ev x = .d (.val (.int k a))) (hy : s.ev y = .d (.val (.int k b))) : Does P ⟨dst, .binOp .geq t x y t', ty, ps, af, gd⟩ s [] (.put (.d (.val (.bool (decide (b ≤ a)))))) :=
  does_bin hx hy (bin_run fun w => by simp [binOp, Op.intCmp])
theorem does_eql (hx : s.ev x = .d (.val (.int k a))) (hy : s.ev y = .d (.val (.int k b))) : Does P ⟨dst, .binOp .eql t x y t', ty, ps, af, gd⟩ s [] (.put (.d (.val (.bool (decide (a = b)))))) :=
  does_bin hx hy (bin_run fun w => by
    have : (a == b) = decide (a = b) := by by_cases h : a = b <;> simp [h]
    simp [binOp, Op.intCmp, this])
theorem does_neq (hx : s.ev x = .d (.val (.int k a))) (hy : s.ev y = .d (.val (.int k b))) : Does P ⟨dst, .binOp .neq t x y t', ty, ps, af, gd⟩ s [] (.put (.d (.val (.bool (decide (a ≠ b)))))) :=
  does_bin hx hy (bin_run fun w => by
    have : (a != b) = decide (a ≠ b) := by by_cases h : a = b <;> simp [h]
    simp [binOp, Op.intCmp, this])

theorem does_un {op : UnOp} {u r : Value} (hx : s.ev x = .d (.val u)) (hrun : ∀ w, (Op.unary op u).run P w = .ok r w) : Does P ⟨dst, .unOp op t x, ty, ps, af, gd⟩ s [] (.put (.d (.val r))) :=
  does_pure fun c s' φ a w hR hop => by
    have h1 := ge_val hR (hop x (by simp [Op.operands])) hx
    refine ⟨r, ?_, (rep_val (ok := okOf c φ s') (w := w)).2 rfl⟩
    simp only [execOp, h1, Sem.run_bind, hrun w, Result.andThen_ok, Sem.run_pure]
theorem does_neg (hx : s.ev x = .d (.val (.int k a))) {r : Int} (hr : k.wrap (-a) = r) : Does P ⟨dst, .unOp .neg t x, ty, ps, af, gd⟩ s [] (.put (.d (.val (.int k r)))) :=
  does_un hx fun w => by subst hr; simp [Op.unary, Op.intArith]
theorem does_not {q : Bool} (hx : s.ev x = .d (.val (.bool q))) : Does P ⟨dst, .unOp .not t x, ty, ps, af, gd⟩ s [] (.put (.d (.val (.bool (!q))))) :=
  does_un hx fun w => by simp [Op.unary]

theorem does_pick {cnd : Operand} {q : Bool} {r : AV} (hc : s.ev cnd = .d (.val (.bool q))) (hr : (bif q then s.ev x else s.ev y) = r) : Does P ⟨dst, .pick cnd x y, ty, ps, af, gd⟩ s [] (.put r) :=
  does_pure fun c s' φ a w hR hop => by
    have h1 := ge_val hR (hop cnd (by simp [Op.operands])) hc
    subst hr
    cases q with
    | true => exact ⟨a.eval x, by simp [execOp, h1, asBool], ge_rep hR (hop x (by simp [Op.operands]))⟩
    | false => exact ⟨a.eval y, by simp [execOp, h1, asBool], ge_rep hR (hop y (by simp [Op.operands]))⟩

theorem does_extract {xs : List DV} {r : DV} {i : Nat} (hx : s.ev x = .d (.tuple xs)) (hr : xs[i]? = some r) : Does P ⟨dst, .extract x i, ty, ps, af, gd⟩ s [] (.put (.d r)) :=
  does_pure fun c s' φ a w hR hop => by
    have h1 := ge_d hR (hop x (by simp [Op.operands])) hx
    rw [DV.rep] at h1
    obtain ⟨vs, e, hv⟩ := h1
    obtain ⟨u, hu, hru⟩ := repL_get hv hr
    refine ⟨u, ?_, hru⟩
    simp [execOp, e, Instr.extract, hu]

/-! ## Places -/

def fldOf (P : Program) (t : TypeId) (f : Nat) : Option Nat :=
  match P.underlying t with
  | some (.struct fs) => match fs[f]? with
    | some fd => match P.info? fd.type with
      | some i => bif i.size == 0 then none else some fd.offset
      | none => none
    | none => none
  | _ => none
class FldI (P : Program) (t : TypeId) (f : Nat) (k : outParam Nat) : Prop where
  eq : fldOf P t f = some k

theorem addr_add (b o n : Nat) : (⟨b, o, none⟩ : Addr).add n = ⟨b, o + n, none⟩ := by
  unfold Addr.add
  split
  · rename_i h; subst h; rfl
  · rfl

theorem run_fieldAt {f k : Nat} (h : fldOf P t f = some k) (b o : Nat) (w : World) : (Instr.fieldAt t (.pointer (some ⟨b, o, none⟩)) f).run P w = .ok (.pointer (some ⟨b, o + k, none⟩)) w := by
  unfold fldOf at h
  cases hu : P.underlying t with
  | none => simp [hu] at h
  | some d =>
    cases d <;> simp only [hu] at h <;> try (cases h; done)
    rename_i fs
    cases hf : fs[f]? with
    | none => simp [hf] at h
    | some fd =>
      cases hi : P.info? fd.type with
      | none => simp [hf, hi] at h
      | some i =>
        simp only [hf, hi] at h
        cases hz : i.size == 0
        · rw [hz] at h
          have h2 : fd.offset = k := by simpa using h
          have h3 : i.size ≠ 0 := by simpa using hz
          simp [Instr.fieldAt, Sem.run_bind, run_underlying hu w, hf, Instr.sureAddr, fieldPlace, sizeOf, typeInfo, hi, h3, addr_add, h2]
        · rw [hz] at h; simp at h

theorem does_field {f k nm off : Nat} (hf : fldOf P t f = some k) (hx : s.ev x = .ptr nm off) : Does P ⟨dst, .fieldAddr t x f, ty, ps, af, gd⟩ s [] (.put (.ptr nm (off + k))) :=
  does_pure fun c s' φ a w hR hop => by
    have h1 := ge_ptr hR (hop x (by simp [Op.operands])) hx
    exact ⟨_, by simp only [execOp, h1, Sem.run_bind, run_fieldAt hf, Result.andThen_ok, Sem.run_pure], rfl⟩
theorem does_fieldR {f k : Nat} {cs : List DV} (hf : fldOf P t f = some k) (hx : s.ev x = .d (.ref cs)) : Does P ⟨dst, .fieldAddr t x f, ty, ps, af, gd⟩ s [] (.put (.d (.ref (cs.drop k)))) :=
  does_pure fun c s' φ a w hR hop => by
    have h1 := ge_d hR (hop x (by simp [Op.operands])) hx
    rw [DV.rep] at h1
    obtain ⟨b, o, vs, e, hb, hl, hc, ho, hr⟩ := h1
    refine ⟨.pointer (some ⟨b, o + k, none⟩), by simp only [execOp, e, Sem.run_bind, run_fieldAt hf, Result.andThen_ok, Sem.run_pure], ?_⟩
    show DV.rep _ w _ _
    rw [DV.rep]
    refine ⟨b, o + k, vs.drop k, rfl, hb, hl, fun j u hj => ?_, fun u hu => ho u (List.mem_of_mem_drop hu), repL_drop hr k⟩
    rw [List.getElem?_drop] at hj
    rw [Nat.add_assoc]; exact hc _ _ hj

def idxOf (P : Program) (t : TypeId) : Option (Bool × Nat × Nat) :=
  match P.underlying t with
  | some (.array n e) => (P.info? e).map fun i => (true, n, i.size)
  | some (.slice e) => (P.info? e).map fun i => (false, 0, i.size)
  | _ => none
class IdxI (P : Program) (t : TypeId) (g : outParam Bool) (n sz : outParam Nat) : Prop where
  eq : idxOf P t = some (g, n, sz)

theorem run_indexArr {n sz : Nat} (h : idxOf P t = some (true, n, sz)) {i : Int} (h0 : 0 ≤ i) (h1 : i < n) (b o : Nat) (k : IntKind) (w : World) : (Instr.indexAt t (.pointer (some ⟨b, o, none⟩)) (.int k i)).run P w = .ok (.pointer (some ⟨b, o + i.toNat * sz, none⟩)) w := by
  unfold idxOf at h
  cases hu : P.underlying t with
  | none => simp [hu] at h
  | some d =>
    cases d <;> simp only [hu] at h <;> try (cases h; done)
    · cases hi : P.info? _ with
      | none => rw [hi] at h; cases h
      | some i => rw [hi] at h; simp at h
    · rename_i m e
      cases hi : P.info? e with
      | none => rw [hi] at h; cases h
      | some i =>
        rw [hi] at h
        simp only [Option.map_some, Option.some.injEq, Prod.mk.injEq, true_and] at h
        obtain ⟨rfl, rfl⟩ := h
        simp [Instr.indexAt, Sem.run_bind, run_underlying hu w, Instr.sureAddr, asIntOf, h0, h1, sizeOf, typeInfo, hi, addr_add]

theorem run_indexSl {n sz : Nat} (h : idxOf P t = some (false, n, sz)) {i : Int} {len cap : Nat} (h0 : 0 ≤ i) (h1 : i < len) (b o : Nat) (k : IntKind) (w : World) : (Instr.indexAt t (.slice (some ⟨b, o, none⟩) len cap) (.int k i)).run P w = .ok (.pointer (some ⟨b, o + i.toNat * sz, none⟩)) w := by
  unfold idxOf at h
  cases hu : P.underlying t with
  | none => simp [hu] at h
  | some d =>
    cases d <;> simp only [hu] at h <;> try (cases h; done)
    · rename_i e
      cases hi : P.info? e with
      | none => rw [hi] at h; cases h
      | some i =>
        rw [hi] at h
        simp only [Option.map_some, Option.some.injEq, Prod.mk.injEq, true_and] at h
        obtain ⟨rfl, rfl⟩ := h
        simp [Instr.indexAt, Sem.run_bind, run_underlying hu w, asIntOf, h0, h1, sizeOf, typeInfo, hi, addr_add]
    · cases hi : P.info? _ with
      | none => rw [hi] at h; cases h
      | some i => rw [hi] at h; simp at h

theorem does_indexP {n sz nm off : Nat} {i : Int} (ht : idxOf P t = some (true, n, sz)) (hx : s.ev x = .ptr nm off) (hy : s.ev y = .d (.val (.int k i))) (h0 : 0 ≤ i) (h1 : i < n) : Does P ⟨dst, .indexAddr t x y, ty, ps, af, gd⟩ s [] (.put (.ptr nm (off + i.toNat * sz))) :=
  does_pure fun c s' φ a w hR hop => by
    have e1 := ge_ptr hR (hop x (by simp [Op.operands])) hx
    have e2 := ge_val hR (hop y (by simp [Op.operands])) hy
    exact ⟨_, by simp only [execOp, e1, e2, Sem.run_bind, run_indexArr ht h0 h1, Result.andThen_ok, Sem.run_pure], rfl⟩
theorem does_indexL {n sz nm off len : Nat} {i : Int} (ht : idxOf P t = some (false, n, sz)) (hx : s.ev x = .lsl nm off len sz) (hy : s.ev y = .d (.val (.int k i))) (h0 : 0 ≤ i) (h1 : i < len) : Does P ⟨dst, .indexAddr t x y, ty, ps, af, gd⟩ s [] (.put (.ptr nm (off + i.toNat * sz))) :=
  does_pure fun c s' φ a w hR hop => by
    obtain ⟨cap, e1, _⟩ := ge_lsl hR (hop x (by simp [Op.operands])) hx
    have e2 := ge_val hR (hop y (by simp [Op.operands])) hy
    exact ⟨_, by simp only [execOp, e1, e2, Sem.run_bind, run_indexSl ht h0 h1, Result.andThen_ok, Sem.run_pure], rfl⟩
theorem does_indexS {n sz len : Nat} {cs : List DV} {i : Int} (ht : idxOf P t = some (false, n, sz)) (hx : s.ev x = .d (.slice len cs)) (hy : s.ev y = .d (.val (.int k i))) (h0 : 0 ≤ i) (h1 : i < len) (hne : cs ≠ []) : Does P ⟨dst, .indexAddr t x y, ty, ps, af, gd⟩ s [] (.put (.d (.ref (cs.drop (i.toNat * sz))))) :=
  does_pure fun c s' φ a w hR hop => by
    have h1' := ge_d hR (hop x (by simp [Op.operands])) hx
    rw [DV.rep] at h1'
    obtain ⟨A, cap, e1, _, _, h3⟩ := h1'
    obtain ⟨b, o, vs, rfl, hb, hl, hc, ho, hr⟩ := h3 hne
    have e2 := ge_val hR (hop y (by simp [Op.operands])) hy
    refine ⟨.pointer (some ⟨b, o + i.toNat * sz, none⟩), by simp only [execOp, e1, e2, Sem.run_bind, run_indexSl ht h0 h1, Result.andThen_ok, Sem.run_pure], ?_⟩
    show DV.rep _ w _ _
    rw [DV.rep]
    refine ⟨b, o + i.toNat * sz, vs.drop (i.toNat * sz), rfl, hb, hl, fun j u hj => ?_, fun u hu => ho u (List.mem_of_mem_drop hu), repL_drop hr _⟩
    rw [List.getElem?_drop] at hj
    rw [Nat.add_assoc]; exact hc _ _ hj
theorem does_indexR {n sz : Nat} {cs : List DV} {i : Int} (ht : idxOf P t = some (true, n, sz)) (hx : s.ev x = .d (.ref cs)) (hy : s.ev y = .d (.val (.int k i))) (h0 : 0 ≤ i) (h1 : i < n) : Does P ⟨dst, .indexAddr t x y, ty, ps, af, gd⟩ s [] (.put (.d (.ref (cs.drop (i.toNat * sz))))) :=
  does_pure fun c s' φ a w hR hop => by
    have h1' := ge_d hR (hop x (by simp [Op.operands])) hx
    rw [DV.rep] at h1'
    obtain ⟨b, o, vs, e1, hb, hl, hc, ho, hr⟩ := h1'
    have e2 := ge_val hR (hop y (by simp [Op.operands])) hy
    refine ⟨.pointer (some ⟨b, o + i.toNat * sz, none⟩), by simp only [execOp, e1, e2, Sem.run_bind, run_indexArr ht h0 h1, Result.andThen_ok, Sem.run_pure], ?_⟩
    show DV.rep _ w _ _
    rw [DV.rep]
    refine ⟨b, o + i.toNat * sz, vs.drop (i.toNat * sz), rfl, hb, hl, fun j u hj => ?_, fun u hu => ho u (List.mem_of_mem_drop hu), repL_drop hr _⟩
    rw [List.getElem?_drop] at hj
    rw [Nat.add_assoc]; exact hc _ _ hj

/-! ## Loads -/

theorem does_load {nm off : Nat} {blk : Blk} {r : DV} (hx : s.ev x = .ptr nm off) (hm : s.mem nm = some blk) (hl : LoadOf P t (blk.cells.drop off) r) : Does P ⟨dst, .load t x, ty, ps, af, gd⟩ s [nm] (.put (.d r)) :=
  ⟨fun c s' φ a w K Q hR hop hrd hd _ hK => by
    have h1 := ge_ptr hR (hop x (by simp [Op.operands])) hx
    obtain ⟨v, hv, hr⟩ := hR.load (P := P) ((hrd nm (by simp)).trans hm) hl
    unfold Oper.wp
    have : (execOp a.eval ⟨dst, .load t x, ty, ps, af, gd⟩).run P w = .ok (.value v) w := by
      simp only [execOp, h1, Sem.run_bind, Instr.loadAt, Instr.sureAddr, Sem.run_pure, Result.andThen_ok, hv]
    rw [this]
    exact hK _ _ _ (hR.put hd hr)
  ⟩
theorem does_loadR {cs : List DV} {r : DV} (hx : s.ev x = .d (.ref cs)) (hl : LoadOf P t cs r) : Does P ⟨dst, .load t x, ty, ps, af, gd⟩ s [] (.put (.d r)) :=
  does_pure fun c s' φ a w hR hop => by
    have h1 := ge_d hR (hop x (by simp [Op.operands])) hx
    rw [DV.rep] at h1
    obtain ⟨b, o, vs, e, hb, hbl, hc, ho, hr⟩ := h1
    obtain ⟨v, hv, hrv⟩ := run_loadVar hl hc ho hr
    exact ⟨v, by simp only [execOp, e, Sem.run_bind, Instr.loadAt, Instr.sureAddr, Sem.run_pure, Result.andThen_ok, hv], hrv⟩

end
end Go.Proofs.Ytgjhikjnlcbmkaa

/- What each operation does to an abstract state: stores, new memory, calls. Nothing of the program. -/
namespace Go.Proofs.Ytgjhikjnlcbmkaa
open Go.RowKit

def cellsOf : DV → Option (List DV)
  | .agg cs => some cs
  | .val v => bif v.oneCell' then some [.val v] else none
  | .slice n cs => some [.slice n cs]
  | .ref cs => some [.ref cs]
  | .fn f a b => some [.fn f a b]
  | _ => none

theorem cells_one {v : Value} (h : v.oneCell' = true) : v.cells = #[v] := by
  cases v <;> first | rfl | (simp [Value.oneCell'] at h)

theorem cellsOf_rep {ok : Nat → Prop} {w : World} {x : DV} {cs : List DV} {v : Value} (h : cellsOf x = some cs) (hr : x.rep ok w v) : Ones v.cells.toList ∧ DV.repL ok w cs v.cells.toList := by
  have one : v.oneCell' = true → cs = [x] → Ones v.cells.toList ∧ DV.repL ok w cs v.cells.toList := fun h1 h2 => by
    rw [cells_one h1, h2]
    exact ⟨fun u hu => by simp at hu; subst hu; exact h1, repL_cons'.2 ⟨hr, repL_nil.2 rfl⟩⟩
  cases x with
  | any => simp [cellsOf] at h
  | tuple cs => simp [cellsOf] at h
  | agg cs' =>
    simp only [cellsOf, Option.some.injEq] at h
    subst h
    rw [DV.rep] at hr
    obtain ⟨vs, rfl, ho, hl⟩ := hr
    exact ⟨ho, hl⟩
  | val u =>
    have e := rep_val.1 hr
    subst e
    simp only [cellsOf] at h
    cases h1 : v.oneCell'
    · rw [h1] at h; simp at h
    · rw [h1] at h; simp at h; exact one h1 h.symm
  | slice n cs' =>
    simp only [cellsOf, Option.some.injEq] at h
    refine one ?_ h.symm
    rw [DV.rep] at hr
    obtain ⟨_, _, rfl, _⟩ := hr; rfl
  | ref cs' =>
    simp only [cellsOf, Option.some.injEq] at h
    refine one ?_ h.symm
    rw [DV.rep] at hr
    obtain ⟨_, _, _, rfl, _⟩ := hr; rfl
  | fn f a b =>
    simp only [cellsOf, Option.some.injEq] at h
    refine one ?_ h.symm
    rw [DV.rep] at hr
    obtain ⟨_, _, rfl, _⟩ := hr; rfl

def spl {α : Type} (l : List α) (off : Nat) (vs : List α) : List α := l.take off ++ vs ++ l.drop (off + vs.length)

section
variable {P : Program} {s : AS} {ty : TypeId} {ps : String} {af : Array Edge} {gd : Option (Nat × Bool)} {dst : Option Tmp} {t t' : TypeId} {x y : Operand} {k : IntKind}

theorem turned_setRow {w : World} {g : Nat} {cs : Array Value} {t : TypeId} {arr : Array Value} (hh : w.heap[g]? = some (.cells arr t (0, 0))) : Turned w (w.setRow g cs) g ∧ (w.setRow g cs).heap[g]? = some (.cells cs t (0, 0)) :=
  ⟨⟨rfl, rfl, rfl, size_setRow w g cs, fun k hk => setRow_other w g k cs hk⟩, setRow_heap w g arr cs t _ hh⟩

theorem does_store {nm off n : Nat} {g : Bool} {blk : Blk} {v : DV} {cs : List DV} (hx : s.ev x = .ptr nm off) (hm : s.mem nm = some blk) (hy : s.ev y = .d v) (hc : cellsOf v = some cs) (ht : tyOf P t = some (g, n)) (hn : cs.length = n)
    (hl : off + n ≤ blk.cells.length) {new : List DV} (hnew : spl blk.cells off cs = new) : Does P ⟨dst, .store t x y, ty, ps, af, gd⟩ s [nm] (.setBlk nm ⟨blk.ty, new⟩) :=
  ⟨fun c s' φ a w K Q hR hop hrd hd _ hK => by
    have h1 := ge_ptr hR (hop x (by simp [Op.operands])) hx
    have h2 := ge_d hR (hop y (by simp [Op.operands])) hy
    have hm' : s'.mem nm = some blk := (hrd nm (by simp)).trans hm
    obtain ⟨ho, hrl⟩ := cellsOf_rep hc h2
    have hlen := repL_length hrl
    obtain ⟨vs, ex, hh, hsz, hov, hrv⟩ := hR.mem nm blk hm'
    have hvl := repL_length hrv
    obtain ⟨_, hso⟩ := tyOf_runs ht w
    have hbnd : off + 0 + (a.eval y).cells.toList.length ≤ (vs ++ ex).toArray.size := by simp at hlen ⊢; omega
    have hst := run_storeCells_at (P := P) (φ nm).1 off blk.ty (a.eval y).cells.toList 0 (vs ++ ex).toArray w hh hbnd ho
    obtain ⟨htu, hhn⟩ := turned_setRow (cs := ((vs ++ ex).toArray.toList.take (off + 0) ++ (a.eval y).cells.toList ++ (vs ++ ex).toArray.toList.drop (off + 0 + (a.eval y).cells.toList.length)).toArray) hh
    have hsize : (a.eval y).cells.size = n := by simp at hlen; omega
    unfold Oper.wp
    have hrun : (execOp a.eval ⟨dst, .store t x y, ty, ps, af, gd⟩).run P w = .ok .skip (w.setRow (φ nm).1 ((vs ++ ex).toArray.toList.take (off + 0) ++ (a.eval y).cells.toList ++ (vs ++ ex).toArray.toList.drop (off + 0 + (a.eval y).cells.toList.length)).toArray) := by
      simp only [execOp, h1, Sem.run_bind, Instr.storeAt, Instr.sureAddr, Sem.run_pure, Result.andThen_ok, storeVar, hso, hsize, ne_eq, not_true_eq_false, if_false, hst]
    rw [hrun]
    have hblk : BlkAt (okOf c φ s') (w.setRow (φ nm).1 ((vs ++ ex).toArray.toList.take (off + 0) ++ (a.eval y).cells.toList ++ (vs ++ ex).toArray.toList.drop (off + 0 + (a.eval y).cells.toList.length)).toArray) (φ nm) ⟨blk.ty, new⟩ := by
      subst hnew
      have hkk : Keeps (okOf c φ s') w (okOf c φ s') (w.setRow (φ nm).1 ((vs ++ ex).toArray.toList.take (off + 0) ++ (a.eval y).cells.toList ++ (vs ++ ex).toArray.toList.drop (off + 0 + (a.eval y).cells.toList.length)).toArray) := by
        refine ⟨fun _ h _ => h, by rw [htu.size]; exact Nat.le_refl _, fun b o u hb hl hc => ?_⟩
        have hB := hR.own nm blk hm'
        have hne : b ≠ (φ nm).1 := by
          rcases hb with ⟨hb, _, hxx⟩ | ⟨_, hb⟩
          · rintro rfl
            rcases hB with hB | hB
            · omega
            · exact hxx hB
          · exact fun e => hb nm (by rw [hm']; simp) e.symm
        exact (World.cell?_of_block (a := ⟨b, o, none⟩) (htu.block b hne)).trans hc
      refine ⟨spl vs off (a.eval y).cells.toList, ex, ?_, ?_, ?_, ?_⟩
      · rw [hhn]
        simp only [Nat.add_zero, spl]
        congr 3
        have e1 : off ≤ vs.length := by omega
        have e2 : off + (a.eval y).cells.toList.length ≤ vs.length := by omega
        rw [List.take_append_of_le_length e1, List.drop_append_of_le_length e2]
        simp [List.append_assoc]
      · rw [← hsz]
        simp only [spl, List.length_append, List.length_take, List.length_drop]
        omega
      · intro u hu
        simp only [spl, List.mem_append] at hu
        rcases hu with (hu | hu) | hu
        · exact hov u (List.mem_of_mem_take hu)
        · exact ho u hu
        · exact hov u (List.mem_of_mem_drop hu)
      · have e3 : (a.eval y).cells.toList.length = cs.length := hlen
        have e4 : spl vs off (a.eval y).cells.toList = vs.take off ++ (a.eval y).cells.toList ++ vs.drop (off + cs.length) := by unfold spl; rw [e3]
        rw [e4]
        exact repL_append (repL_append (repL_take (DV.repL_keeps hkk _ _ hrv) off) (DV.repL_keeps hkk _ _ hrl)) (repL_drop (DV.repL_keeps hkk _ _ hrv) _)
    have hR2 := hR.store hm' htu hblk
    exact hK φ _ _ (hR2.put hd (by simp only [AV.rep, DV.rep]))
  ⟩

/-! ## New memory -/

theorem blk_new {c : Ctx} {s' : AS} {φ : Nat → Nat × Nat} {w : World} {cs : List DV} {vs : Array Value} (ho : Ones vs.toList) (hr : DV.repL (okOf c φ s') w cs vs.toList) (t : TypeId) : BlkAt (okNew c s' φ w w.heap.size) (w.alloc (.cells vs t)) (w.heap.size, vs.size) ⟨t, cs⟩ := by
  refine ⟨vs.toList, [], ?_, by simp, ho, ?_⟩
  · simp only [List.append_nil, Array.toArray_toList]; exact heap_alloc_new w _
  · refine DV.repL_keeps ⟨fun b hb hl => .inl ⟨hb, hl⟩, by rw [World.size_alloc]; omega, fun b o u _ hl hc => ?_⟩ _ _ hr
    exact (World.cell?_alloc_lt w (a := ⟨b, o, none⟩) (o := .cells vs t) hl).trans hc

theorem run_newVar {w : World} (t : TypeId) (v : Value) : (newVar t v).run P w = .ok ⟨w.heap.size, 0, none⟩ (w.alloc (.cells v.cells t)) := rfl

def zroOf (P : Program) (t : TypeId) : Option (List Value) :=
  match P.info? t with
  | some i => match i.zero with
    | some z => bif z.cells.toList.all (·.oneCell') then some z.cells.toList else none
    | none => none
  | none => none
class ZroI (P : Program) (t : TypeId) (vs : outParam (List Value)) : Prop where
  eq : zroOf P t = some vs
theorem zroOf_run {t : TypeId} {vs : List Value} (h : zroOf P t = some vs) (w : World) : ∃ z, (zeroValue t).run P w = .ok z w ∧ z.cells.toList = vs ∧ Ones vs := by
  unfold zroOf at h
  cases hi : P.info? t with
  | none => simp [hi] at h
  | some i =>
    cases hz : i.zero with
    | none => simp [hi, hz] at h
    | some z =>
      simp only [hi, hz] at h
      cases ha : z.cells.toList.all (·.oneCell')
      · rw [ha] at h; simp at h
      · rw [ha] at h
        simp only [cond_true, Option.some.injEq] at h
        refine ⟨z, by simp [zeroValue, typeInfo, hi, hz], h, ?_⟩
        subst h
        rw [List.all_eq_true] at ha
        exact ha

theorem does_alloc {d : Nat} {zs : List Value} (ht : zroOf P t = some zs) : Does P ⟨some d, .alloc t, ty, ps, af, gd⟩ s [] (.newBlk ⟨t, zs.map DV.val⟩ (.ptr d 0)) :=
  ⟨fun c s' φ a w K Q hR _ _ hd _ hK => by
    obtain ⟨z, hz, hzc, hzo⟩ := zroOf_run ht w
    unfold Oper.wp
    have hrun : (execOp a.eval ⟨some d, .alloc t, ty, ps, af, gd⟩).run P w = .ok (.value (.pointer (some ⟨w.heap.size, 0, none⟩))) (w.alloc (.cells z.cells t)) := by
      simp only [execOp, Instr.alloc, Sem.run_bind, hz, Result.andThen_ok, run_newVar, Sem.run_pure]
    rw [hrun]
    refine hK (upd φ d (w.heap.size, z.cells.size)) _ _ (hR.newBlk ((Below.refl _ _).alloc (Nat.le_refl _) _) (hd d rfl) (Nat.le_refl _) (blk_new (by rw [hzc]; exact hzo) (by rw [hzc]; exact repL_vals zs) t) ?_)
    show _ = _
    rw [upd_same]
  ⟩

theorem does_box {d : Nat} {v : DV} {cs : List DV} (hx : s.ev x = .d v) (hc : cellsOf v = some cs) : Does P ⟨some d, .box t x, ty, ps, af, gd⟩ s [] (.newBlk ⟨t, cs⟩ (.ptr d 0)) :=
  ⟨fun c s' φ a w K Q hR hop _ hd _ hK => by
    have h1 := ge_d hR (hop x (by simp [Op.operands])) hx
    obtain ⟨ho, hr⟩ := cellsOf_rep hc h1
    unfold Oper.wp
    have hrun : (execOp a.eval ⟨some d, .box t x, ty, ps, af, gd⟩).run P w = .ok (.value (.pointer (some ⟨w.heap.size, 0, none⟩))) (w.alloc (.cells (a.eval x).cells t)) := by
      simp only [execOp, Instr.box, Sem.run_bind, Result.andThen_ok, run_newVar, Sem.run_pure]
    rw [hrun]
    refine hK (upd φ d (w.heap.size, (a.eval x).cells.size)) _ _ (hR.newBlk ((Below.refl _ _).alloc (Nat.le_refl _) _) (hd d rfl) (Nat.le_refl _) (blk_new ho hr t) ?_)
    show _ = _
    rw [upd_same]
  ⟩

/-! ## Composite values -/

def afill (place : Nat → Option (Nat × Nat)) : List DV → List (Nat × DV) → Option (List DV)
  | cs, [] => some cs
  | cs, (i, v) :: rest => match place i, cellsOf v with
    | some (off, size), some vs => bif Nat.beq vs.length size && Nat.ble (off + vs.length) cs.length then afill place (spl cs off vs) rest else none
    | _, _ => none

theorem fold_spl (off : Nat) : ∀ (vs : List Value) (j : Nat) (cs : Array Value), off + j + vs.length ≤ cs.size →
    ((vs.zipIdx j).foldl (fun cs (c, j) => cs.setIfInBounds (off + j) c) cs).toList = spl cs.toList (off + j) vs := by
  intro vs
  induction vs with
  | nil => intro j cs _; simp [spl]
  | cons v vs ih =>
    intro j cs h
    rw [List.zipIdx_cons, List.foldl_cons]
    simp only [List.length_cons] at h
    rw [ih (j + 1) _ (by simp; omega)]
    have e := list_seg_step cs.toList (off + j) v vs (by simp; omega)
    simp only [Array.toList_setIfInBounds, spl]
    simp only [List.length_cons]
    simpa [Nat.add_assoc] using e

theorem fill_sim {ok : Nat → Prop} {w : World} (place : Nat → Option (Nat × Nat)) : ∀ (parts : List (Nat × DV)) (pv : List (Nat × Value)) (cs : List DV) (vs : Array Value) (r : List DV), parts.map (·.1) = pv.map (·.1) → DV.repL ok w (parts.map (·.2)) (pv.map (·.2)) → DV.repL ok w cs vs.toList → Ones vs.toList →
    afill place cs parts = some r → ∃ us, Instr.fill place vs pv = some us ∧ Ones us.toList ∧ DV.repL ok w r us.toList := by
  intro parts
  induction parts with
  | nil =>
    intro pv cs vs r h1 h2 h3 h4 h5
    have : pv = [] := by simpa using h1.symm
    subst this
    simp only [afill, Option.some.injEq] at h5
    subst h5
    exact ⟨vs, rfl, h4, h3⟩
  | cons p parts ih =>
    intro pv cs vs r h1 h2 h3 h4 h5
    obtain ⟨i, v⟩ := p
    cases pv with
    | nil => simp at h1
    | cons q pv =>
      obtain ⟨i', u⟩ := q
      simp only [List.map_cons, List.cons.injEq] at h1
      obtain ⟨rfl, h1⟩ := h1
      simp only [List.map_cons] at h2
      obtain ⟨hu, h2⟩ := repL_cons'.1 h2
      simp only [afill] at h5
      cases hp : place i with
      | none => rw [hp] at h5; simp at h5
      | some q =>
        obtain ⟨off, size⟩ := q
        cases hc : cellsOf v with
        | none => rw [hp, hc] at h5; simp at h5
        | some cv =>
          rw [hp, hc] at h5
          simp only at h5
          obtain ⟨ho, hr⟩ := cellsOf_rep hc hu
          have hl := repL_length hr
          have hl3 := repL_length h3
          cases hb : (Nat.beq cv.length size && Nat.ble (off + cv.length) cs.length)
          · rw [hb] at h5; simp at h5
          · rw [hb] at h5
            simp only [cond_true] at h5
            rw [Bool.and_eq_true] at hb
            have e1 := Nat.eq_of_beq_eq_true hb.1
            have e2 := Nat.le_of_ble_eq_true hb.2
            have hsz : u.cells.size = size := by simp at hl; omega
            have hbn : off + u.cells.size ≤ vs.size := by simp at hl hl3; omega
            have hf := fold_spl off u.cells.toList 0 vs (by simp; omega)
            rw [Nat.add_zero] at hf
            have hcond : ¬ (decide (u.cells.size ≠ size) || decide (off + u.cells.size > vs.size)) = true := by simp; omega
            have hz : u.cells.zipIdx.foldl (fun cs (x : Value × Nat) => cs.setIfInBounds (off + x.2) x.1) vs = (u.cells.toList.zipIdx).foldl (fun cs (x : Value × Nat) => cs.setIfInBounds (off + x.2) x.1) vs := by
              rw [← Array.foldl_toList, Array.toList_zipIdx]
            obtain ⟨us, h6, h7, h8⟩ := ih pv (spl cs off cv) (u.cells.zipIdx.foldl (fun cs (x : Value × Nat) => cs.setIfInBounds (off + x.2) x.1) vs) r h1 h2 (by
              rw [hz, hf]
              unfold spl
              have : u.cells.toList.length = cv.length := by omega
              rw [this]
              exact repL_append (repL_append (repL_take h3 off) hr) (repL_drop h3 _)) (by
              rw [hz, hf]
              intro z hz2
              simp only [spl, List.mem_append] at hz2
              rcases hz2 with (hz2 | hz2) | hz2
              · exact h4 z (List.mem_of_mem_take hz2)
              · exact ho z hz2
              · exact h4 z (List.mem_of_mem_drop hz2)) h5
            refine ⟨us, ?_, h7, h8⟩
            simp only [Instr.fill, hp]
            rw [if_neg hcond]
            exact h6

def partsOf (s : AS) : List (Nat × Operand) → Option (List (Nat × DV))
  | [] => some []
  | (i, x) :: l => match s.ev x, partsOf s l with
    | .d v, some r => some ((i, v) :: r)
    | _, _ => none

theorem partsOf_rep {c : Ctx} {s' : AS} {φ : Nat → Nat × Nat} {a : Act} {w : World} (hR : R c s' φ a w) : ∀ (l : List (Nat × Operand)) (r : List (Nat × DV)), (∀ p ∈ l, ge (s'.ev p.2) (s.ev p.2)) → partsOf s l = some r →
    r.map (·.1) = (l.map fun p => (p.1, a.eval p.2)).map (·.1) ∧ DV.repL (okOf c φ s') w (r.map (·.2)) ((l.map fun p => (p.1, a.eval p.2)).map (·.2)) := by
  intro l
  induction l with
  | nil => intro r _ h; simp only [partsOf, Option.some.injEq] at h; subst h; exact ⟨rfl, repL_nil.2 rfl⟩
  | cons p l ih =>
    intro r hg h
    obtain ⟨i, x⟩ := p
    simp only [partsOf] at h
    cases hx : s.ev x with
    | ptr nm off => rw [hx] at h; simp at h
    | lsl nm off len sz => rw [hx] at h; simp at h
    | dep n m f => rw [hx] at h; simp at h
    | d v =>
      cases hp : partsOf s l with
      | none => rw [hx, hp] at h; simp at h
      | some r' =>
        rw [hx, hp] at h
        simp only [Option.some.injEq] at h
        subst h
        obtain ⟨h1, h2⟩ := ih r' (fun p hp => hg p (by simp [hp])) hp
        have h3 := ge_d hR (hg (i, x) (by simp)) hx
        refine ⟨?_, ?_⟩
        · simp only [List.map_cons, List.cons.injEq, true_and]; exact h1
        · simp only [List.map_cons]; exact repL_cons'.2 ⟨h3, h2⟩

def strOf (P : Program) (t : TypeId) : Option (List (Nat × Nat)) :=
  match P.underlying t with
  | some (.struct fs) => fs.toList.mapM fun f => (P.info? f.type).map fun i => (f.offset, i.size)
  | _ => none
class StrI (P : Program) (t : TypeId) (ls : outParam (List (Nat × Nat))) : Prop where
  eq : strOf P t = some ls

theorem mapM_places {w : World} : ∀ (fs : List Field) (ls : List (Nat × Nat)), (fs.mapM fun f => (P.info? f.type).map fun i => (f.offset, i.size)) = some ls →
    (fs.mapM (m := Sem) fun f => do pure (f.offset, ← sizeOf f.type)).run P w = .ok ls w := by
  intro fs
  induction fs with
  | nil => intro ls h; simp at h; subst h; simp
  | cons f fs ih =>
    intro ls h
    rw [List.mapM_cons] at h
    cases hi : P.info? f.type with
    | none => simp [hi] at h
    | some i =>
      rw [hi] at h
      cases hm : fs.mapM fun f => (P.info? f.type).map fun i => (f.offset, i.size) with
      | none => rw [hm] at h; simp at h
      | some ls' =>
        rw [hm] at h
        simp at h
        subst h
        rw [List.mapM_cons]
        have hso : (sizeOf f.type).run P w = .ok i.size w := by simp [sizeOf, typeInfo, hi]
        simp only [Sem.run_bind, hso, Result.andThen_ok, Sem.run_pure, ih ls' hm]

theorem does_buildS {parts : Array (Nat × Operand)} {zs : List Value} {ls : List (Nat × Nat)} {ps' : List (Nat × DV)} {r : List DV} (hz : zroOf P t = some zs) (hs : strOf P t = some ls) (hp : partsOf s parts.toList = some ps')
    (hr : afill (fun i => ls[i]?) (zs.map DV.val) ps' = some r) : Does P ⟨dst, .build t parts, ty, ps, af, gd⟩ s [] (.put (.d (.agg r))) :=
  does_pure fun c s' φ a w hR hop => by
    obtain ⟨z, hzr, hzc, hzo⟩ := zroOf_run hz w
    obtain ⟨h1, h2⟩ := partsOf_rep hR parts.toList ps' (fun p hp => hop p.2 (by simp [Op.operands]; exact ⟨p.1, by simpa using hp⟩)) hp
    obtain ⟨us, h3, h4, h5⟩ := fill_sim (fun i => ls[i]?) ps' _ _ z.cells r h1 h2 (by rw [hzc]; exact repL_vals zs) (by rw [hzc]; exact hzo) hr
    refine ⟨.agg us, ?_, ?_⟩
    · unfold strOf at hs
      cases hu : P.underlying t with
      | none => simp [hu] at hs
      | some d =>
        cases d <;> simp only [hu] at hs <;> try (cases hs; done)
        rename_i fs
        have hm := mapM_places (P := P) (w := w) fs.toList ls hs
        have hm2 : (fs.mapM (m := Sem) fun f => do pure (f.offset, ← sizeOf f.type)).run P w = .ok ls.toArray w := by
          rw [← Array.toArray_toList (xs := fs), List.mapM_toArray, Sem.run_map, hm]; rfl
        have hpl : (fun i : Nat => ls.toArray[i]?) = fun i : Nat => ls[i]? := by funext i; simp
        have hpa : (parts.map fun x => (x.1, a.eval x.2)).toList = parts.toList.map fun p => (p.1, a.eval p.2) := by simp
        simp only [execOp, Instr.build, Sem.run_bind, hzr, run_underlying hu w, Result.andThen_ok, hm2, hpl, hpa, h3, Sem.run_pure]
    · show DV.rep _ w _ _
      rw [DV.rep]
      exact ⟨us.toList, by simp, h4, h5⟩

theorem does_buildA {parts : Array (Nat × Operand)} {zs : List Value} {n sz : Nat} {ps' : List (Nat × DV)} {r : List DV} (hz : zroOf P t = some zs) (hs : idxOf P t = some (true, n, sz)) (hp : partsOf s parts.toList = some ps')
    (hr : afill (fun i => some (i * sz, sz)) (zs.map DV.val) ps' = some r) : Does P ⟨dst, .build t parts, ty, ps, af, gd⟩ s [] (.put (.d (.agg r))) :=
  does_pure fun c s' φ a w hR hop => by
    obtain ⟨z, hzr, hzc, hzo⟩ := zroOf_run hz w
    obtain ⟨h1, h2⟩ := partsOf_rep hR parts.toList ps' (fun p hp => hop p.2 (by simp [Op.operands]; exact ⟨p.1, by simpa using hp⟩)) hp
    obtain ⟨us, h3, h4, h5⟩ := fill_sim (fun i => some (i * sz, sz)) ps' _ _ z.cells r h1 h2 (by rw [hzc]; exact repL_vals zs) (by rw [hzc]; exact hzo) hr
    refine ⟨.agg us, ?_, ?_⟩
    · unfold idxOf at hs
      cases hu : P.underlying t with
      | none => simp [hu] at hs
      | some d =>
        cases d <;> simp only [hu] at hs <;> try (cases hs; done)
        · cases hi : P.info? _ with
          | none => rw [hi] at hs; cases hs
          | some i => rw [hi] at hs; simp at hs
        · rename_i m e
          cases hi : P.info? e with
          | none => rw [hi] at hs; cases hs
          | some i =>
            rw [hi] at hs
            simp only [Option.map_some, Option.some.injEq, Prod.mk.injEq, true_and] at hs
            obtain ⟨rfl, rfl⟩ := hs
            have hpa : (parts.map fun x => (x.1, a.eval x.2)).toList = parts.toList.map fun p => (p.1, a.eval p.2) := by simp
            have hso : (sizeOf e).run P w = .ok i.size w := by simp [sizeOf, typeInfo, hi]
            simp only [execOp, Instr.build, Sem.run_bind, hzr, run_underlying hu w, Result.andThen_ok, hso, hpa, h3, Sem.run_pure]
    · show DV.rep _ w _ _
      rw [DV.rep]
      exact ⟨us.toList, by simp, h4, h5⟩

end
end Go.Proofs.Ytgjhikjnlcbmkaa

/- What each operation does to an abstract state: slices, calls, append. Nothing of the program. -/
namespace Go.Proofs.Ytgjhikjnlcbmkaa
open Go.RowKit

section
variable {P : Program} {s : AS} {ty : TypeId} {ps : String} {af : Array Edge} {gd : Option (Nat × Bool)} {dst : Option Tmp} {t t' : TypeId} {x y : Operand} {k : IntKind}

def sliOf (P : Program) (t : TypeId) : Option (TypeId × Nat × Nat × List Value) :=
  match P.underlying t with
  | some (.slice e) => match P.info? e with
    | some i => match i.zero with
      | some z => bif z.cells.toList.all (·.oneCell') && (Nat.beq z.cells.size i.size && Nat.blt 0 i.size) then some (e, i.size, i.bytes, z.cells.toList) else none
      | none => none
    | none => none
  | _ => none
class SliI (P : Program) (t : TypeId) (e : outParam TypeId) (sz bytes : outParam Nat) (zs : outParam (List Value)) : Prop where
  eq : sliOf P t = some (e, sz, bytes, zs)

theorem sliOf_parts {e sz bytes : Nat} {zs : List Value} (h : sliOf P t = some (e, sz, bytes, zs)) : ∃ i z, P.underlying t = some (.slice e) ∧ P.info? e = some i ∧ i.zero = some z ∧ i.size = sz ∧ i.bytes = bytes ∧ z.cells.toList = zs ∧ z.cells.size = sz ∧ 0 < sz ∧ Ones zs := by
  unfold sliOf at h
  cases hu : P.underlying t with
  | none => simp [hu] at h
  | some d =>
    cases d <;> simp only [hu] at h <;> try (cases h; done)
    rename_i e'
    cases hi : P.info? e' with
    | none => simp [hi] at h
    | some i =>
      cases hz : i.zero with
      | none => simp [hi, hz] at h
      | some z =>
        simp only [hi, hz] at h
        cases hb : (z.cells.toList.all (·.oneCell') && (Nat.beq z.cells.size i.size && Nat.blt 0 i.size))
        · rw [hb] at h; simp at h
        · rw [hb] at h
          simp only [cond_true, Option.some.injEq, Prod.mk.injEq] at h
          obtain ⟨rfl, h1, h2, h3⟩ := h
          simp only [Bool.and_eq_true] at hb
          obtain ⟨h4, h5, h6⟩ := hb
          refine ⟨i, z, rfl, hi, hz, h1, h2, h3, (Nat.eq_of_beq_eq_true h5).trans h1, by rw [← h1]; exact Nat.le_of_ble_eq_true h6, ?_⟩
          rw [← h3]
          rw [List.all_eq_true] at h4
          exact h4

def zeros (zs : List Value) (n : Nat) : List Value := (List.range n).map fun i => zs.getD (i % zs.length) undef

theorem does_buildSl {d n e sz bytes : Nat} {parts : Array (Nat × Operand)} {zs : List Value} {ps' : List (Nat × DV)} {r : List DV} (ht : sliOf P t = some (e, sz, bytes, zs)) (hp : partsOf s parts.toList = some ps') (hn : n * sz ≤ 16777216)
    (hr : afill (fun i => some (i * sz, sz)) ((zeros zs (n * sz)).map DV.val) ps' = some r) : Does P ⟨some d, .buildSlice t n parts, ty, ps, af, gd⟩ s [] (.newBlk ⟨e, r⟩ (.lsl d 0 n sz)) :=
  ⟨fun c s' φ a w K Q hR hop _ hd _ hK => by
    obtain ⟨i, z, hu, hi, hz, hsz, _, hzc, hzs, hpos, ho⟩ := sliOf_parts ht
    obtain ⟨h1, h2⟩ := partsOf_rep hR parts.toList ps' (fun p hp => hop p.2 (by simp [Op.operands]; exact ⟨p.1, by simpa using hp⟩)) hp
    have hzl : zs.length = sz := by rw [← hzc]; simpa using hzs
    have hz0 : ((Array.range (n * sz)).map fun j => z.cells[j % z.cells.size]!).toList = zeros zs (n * sz) := by
      rw [Array.toList_map, Array.toList_range]
      unfold zeros
      refine List.map_congr_left fun j _ => ?_
      have hlt : j % z.cells.size < z.cells.size := Nat.mod_lt _ (by omega)
      rw [← hzc]
      simp [hlt]
    have hzo : Ones (zeros zs (n * sz)) := by
      intro u hu2
      unfold zeros at hu2
      obtain ⟨j, _, rfl⟩ := List.mem_map.1 hu2
      have hlt : j % zs.length < zs.length := Nat.mod_lt _ (by omega)
      rw [List.getD_eq_getElem?_getD, List.getElem?_eq_getElem hlt]
      exact ho _ (List.getElem_mem hlt)
    obtain ⟨us, h3, h4, h5⟩ := fill_sim (fun i => some (i * sz, sz)) ps' _ _ ((Array.range (n * sz)).map fun j => z.cells[j % z.cells.size]!) r h1 h2 (by rw [hz0]; exact repL_vals _) (by rw [hz0]; exact hzo) hr
    have hrl := repL_length h5
    have hfs : ∀ (parts : List (Nat × Value)) (cs : Array Value) (us : Array Value), Instr.fill (fun i => some (i * sz, sz)) cs parts = some us → us.size = cs.size := by
      intro parts
      induction parts with
      | nil => intro cs us h; simp only [Instr.fill, Option.some.injEq] at h; rw [h]
      | cons p l ih =>
        intro cs us h
        obtain ⟨j, v⟩ := p
        simp only [Instr.fill] at h
        split at h
        · cases h
        · rw [ih _ _ h]
          rw [← Array.foldl_toList, Array.toList_zipIdx]
          have : ∀ (l : List (Value × Nat)) (cs : Array Value), (l.foldl (fun cs (x : Value × Nat) => cs.setIfInBounds (j * sz + x.2) x.1) cs).size = cs.size := by
            intro l
            induction l with
            | nil => intro cs; rfl
            | cons q l ih2 => intro cs; rw [List.foldl_cons, ih2]; simp
          exact this _ _
    have hsz2 : us.size = n * sz := by rw [hfs _ _ _ h3]; simp
    have hpa : (parts.map fun x => (x.1, a.eval x.2)).toList = parts.toList.map fun p => (p.1, a.eval p.2) := by simp
    unfold Oper.wp
    have hrun : (execOp a.eval ⟨some d, .buildSlice t n parts, ty, ps, af, gd⟩).run P w = .ok (.value (.slice (some ⟨w.heap.size, 0, none⟩) n n)) (w.alloc (.cells us e)) := by
      have hso : (sizeOf e).run P w = .ok sz w := by simp [sizeOf, typeInfo, hi, hsz]
      have hzv : (zeroValue e).run P w = .ok z w := by simp [zeroValue, typeInfo, hi, hz]
      have hnr : (newRow e us).run P w = .ok ⟨w.heap.size, 0, none⟩ (w.alloc (.cells us e)) := rfl
      have hng : ¬ n * sz > 2 ^ 24 := by omega
      simp only [execOp, Instr.buildSlice, Sem.run_bind, run_underlying hu w, Result.andThen_ok, hso, hng, if_false]
      by_cases h0 : n * sz = 0
      · have hus : us = #[] := by apply Array.eq_empty_of_size_eq_zero; omega
        have h30 := h3
        rw [h0] at h30
        simp only [h0, if_true, Sem.run_bind, Sem.run_pure, Result.andThen_ok, hpa]
        have : (Array.range 0).map (fun j => (#[] : Array Value)[j % (#[] : Array Value).size]!) = (Array.range 0).map (fun j => z.cells[j % z.cells.size]!) := by simp
        rw [this, h30]
        simp only [Sem.run_bind, hnr, Result.andThen_ok, Sem.run_pure]
      · simp only [h0, if_false, Sem.run_bind, hzv, Result.andThen_ok, Sem.run_pure, hpa, h3, hnr]
    rw [hrun]
    refine hK (upd φ d (w.heap.size, us.size)) _ _ (hR.newBlk ((Below.refl _ _).alloc (Nat.le_refl _) _) (hd d rfl) (Nat.le_refl _) (blk_new h4 h5 e) ?_)
    refine ⟨n, ?_, Nat.le_refl _, ?_, ?_⟩
    · rw [upd_same]
    · unfold maxLen
      have : n * 1 ≤ n * sz := Nat.mul_le_mul_left _ hpos
      omega
    · rw [upd_same]; simp only; omega
  ⟩

/-! ## Lengths -/

theorem does_lenS {n : Nat} {cs : List DV} {e : TypeId} (ht : P.underlying t = some (.slice e)) (hx : s.ev x = .d (.slice n cs)) : Does P ⟨dst, .call ⟨.builtin .len, #[x], #[t]⟩, ty, ps, af, gd⟩ s [] (.put (.d (.val (.int .i64 n)))) :=
  does_pure fun c s' φ a w hR hop => by
    have h1 := ge_d hR (hop x (by simp [Op.operands, Call.operands])) hx
    rw [DV.rep] at h1
    obtain ⟨A, cap, e1, _⟩ := h1
    refine ⟨_, ?_, (rep_val (ok := okOf c φ s') (w := w)).2 rfl⟩
    simp [execOp, resolve, invoke, builtin, e1, Builtin.len_, run_underlying ht, goInt]
theorem does_lenL {nm off n sz : Nat} {e : TypeId} (ht : P.underlying t = some (.slice e)) (hx : s.ev x = .lsl nm off n sz) : Does P ⟨dst, .call ⟨.builtin .len, #[x], #[t]⟩, ty, ps, af, gd⟩ s [] (.put (.d (.val (.int .i64 n)))) :=
  does_pure fun c s' φ a w hR hop => by
    obtain ⟨cap, e1, _⟩ := ge_lsl hR (hop x (by simp [Op.operands, Call.operands])) hx
    refine ⟨_, ?_, (rep_val (ok := okOf c φ s') (w := w)).2 rfl⟩
    simp [execOp, resolve, invoke, builtin, e1, Builtin.len_, run_underlying ht, goInt]
theorem does_lenN {e : TypeId} (ht : P.underlying t = some (.slice e)) (hx : s.ev x = .d (.val (.slice none 0 0))) : Does P ⟨dst, .call ⟨.builtin .len, #[x], #[t]⟩, ty, ps, af, gd⟩ s [] (.put (.d (.val (.int .i64 0)))) :=
  does_pure fun c s' φ a w hR hop => by
    have e1 := ge_val hR (hop x (by simp [Op.operands, Call.operands])) hx
    refine ⟨_, ?_, (rep_val (ok := okOf c φ s') (w := w)).2 rfl⟩
    simp [execOp, resolve, invoke, builtin, e1, Builtin.len_, run_underlying ht, goInt]
theorem does_lenT {b : ByteArray} (ht : P.underlying t = some .string) (hx : s.ev x = .d (.val (.string b))) : Does P ⟨dst, .call ⟨.builtin .len, #[x], #[t]⟩, ty, ps, af, gd⟩ s [] (.put (.d (.val (.int .i64 b.size)))) :=
  does_pure fun c s' φ a w hR hop => by
    have e1 := ge_val hR (hop x (by simp [Op.operands, Call.operands])) hx
    refine ⟨_, ?_, (rep_val (ok := okOf c φ s') (w := w)).2 rfl⟩
    simp [execOp, resolve, invoke, builtin, e1, Builtin.len_, run_underlying ht, goInt]

/-! ## Calls of functions -/

mutual
def DV.flat : DV → Bool
  | .val _ => true
  | .agg cs => DV.flatL cs
  | .tuple cs => DV.flatL cs
  | _ => false
def DV.flatL : List DV → Bool
  | [] => true
  | c :: cs => c.flat && DV.flatL cs
end
mutual
theorem rep_flat {ok ok' : Nat → Prop} {w w' : World} : ∀ (x : DV) (v : Value), x.flat = true → x.rep ok w v → x.rep ok' w' v
  | .any, _, h, _ => by simp [DV.flat] at h
  | .val u, v, _, hr => rep_val.2 (rep_val.1 hr)
  | .agg cs, v, h, hr => by
    rw [DV.rep] at hr ⊢
    obtain ⟨vs, e, ho, hl⟩ := hr
    exact ⟨vs, e, ho, repL_flat cs vs (by simpa [DV.flat] using h) hl⟩
  | .tuple cs, v, h, hr => by
    rw [DV.rep] at hr ⊢
    obtain ⟨vs, e, hl⟩ := hr
    exact ⟨vs, e, repL_flat cs vs (by simpa [DV.flat] using h) hl⟩
  | .slice n cs, _, h, _ => by simp [DV.flat] at h
  | .ref cs, _, h, _ => by simp [DV.flat] at h
  | .fn f a b, _, h, _ => by simp [DV.flat] at h
theorem repL_flat {ok ok' : Nat → Prop} {w w' : World} : ∀ (xs : List DV) (vs : List Value), DV.flatL xs = true → DV.repL ok w xs vs → DV.repL ok' w' xs vs
  | [], vs, _, hr => repL_nil.2 (repL_nil.1 hr)
  | c :: cs, vs, h, hr => by
    obtain ⟨u, us, rfl, h1, h2⟩ := repL_cons.1 hr
    simp only [DV.flatL, Bool.and_eq_true] at h
    exact repL_cons'.2 ⟨rep_flat c u h.1 h1, repL_flat cs us h.2 h2⟩
end

def viewL (s : AS) : List Operand → Option (List DV × List Nat)
  | [] => some ([], [])
  | x :: l => match s.ev x, viewL s l with
    | .d v, some (r, rd) => some (v :: r, rd)
    | .lsl nm off len sz, some (r, rd) => match s.mem nm with
      | some blk => some (.slice len ((blk.cells.drop off).take (len * sz)) :: r, nm :: rd)
      | none => none
    | .ptr nm off, some (r, rd) => match s.mem nm with
      | some blk => some (.ref (blk.cells.drop off) :: r, nm :: rd)
      | none => none
    | .dep .., some _ => none
    | _, none => none

theorem viewL_rep {c : Ctx} {s' : AS} {φ : Nat → Nat × Nat} {a : Act} {w : World} (hR : R c s' φ a w) {ok : Nat → Prop} : ∀ (l : List Operand) (r : List DV) (rd : List Nat), (∀ x ∈ l, ge (s'.ev x) (s.ev x)) → viewL s l = some (r, rd) → (∀ n ∈ rd, s'.mem n = s.mem n) → (∀ b, okOf c φ s' b → b < w.heap.size → ok b) → (rd ≠ [] → ∀ b, ok b) →
    DV.repL ok w r (l.map a.eval) := by
  intro l
  induction l with
  | nil => intro r rd _ h _ _ _; simp only [viewL, Option.some.injEq, Prod.mk.injEq] at h; obtain ⟨rfl, rfl⟩ := h; exact repL_nil.2 rfl
  | cons x l ih =>
    intro r rd hg h hm hok hall
    simp only [viewL] at h
    cases hl : viewL s l with
    | none => rw [hl] at h; cases hx : s.ev x <;> rw [hx] at h <;> simp at h
    | some q =>
      obtain ⟨r', rd'⟩ := q
      rw [hl] at h
      have hgx := hg x (by simp)
      cases hx : s.ev x with
      | d v =>
        rw [hx] at h
        simp only [Option.some.injEq, Prod.mk.injEq] at h
        obtain ⟨rfl, rfl⟩ := h
        have h3 := ge_d hR hgx hx
        exact repL_cons'.2 ⟨DV.rep_keeps (Keeps.wide hok) _ _ h3, ih r' rd' (fun y hy => hg y (by simp [hy])) hl hm hok hall⟩
      | lsl nm off len sz =>
        rw [hx] at h
        simp only at h
        cases hb : s.mem nm with
        | none => rw [hb] at h; cases h
        | some blk =>
          rw [hb] at h
          simp only [Option.some.injEq, Prod.mk.injEq] at h
          obtain ⟨rfl, rfl⟩ := h
          have hm' : s'.mem nm = some blk := (hm nm (by simp)).trans hb
          have h3 := hR.slice_of_own hm' (hall (by simp) _) (fun b _ => hall (by simp) b) (ge_lsl hR hgx hx)
          exact repL_cons'.2 ⟨h3, ih r' rd' (fun y hy => hg y (by simp [hy])) hl (fun n hn => hm n (by simp [hn])) hok (fun _ => hall (by simp))⟩
      | dep n m f => rw [hx] at h; simp at h
      | ptr nm off =>
        rw [hx] at h
        simp only at h
        cases hb : s.mem nm with
        | none => rw [hb] at h; cases h
        | some blk =>
          rw [hb] at h
          simp only [Option.some.injEq, Prod.mk.injEq] at h
          obtain ⟨rfl, rfl⟩ := h
          have hm' : s'.mem nm = some blk := (hm nm (by simp)).trans hb
          have h3 := ge_ptr hR hgx hx
          obtain ⟨vs, ex, hh, hlen, ho, hrl⟩ := hR.mem nm blk hm'
          refine repL_cons'.2 ⟨?_, ih r' rd' (fun y hy => hg y (by simp [hy])) hl (fun n hn => hm n (by simp [hn])) hok (fun _ => hall (by simp))⟩
          rw [DV.rep]
          refine ⟨_, off, vs.drop off, h3, hall (by simp) _, (Array.getElem?_eq_some_iff.1 hh).1, ?_, fun u hu => ho u (List.mem_of_mem_drop hu), repL_drop (DV.repL_keeps (Keeps.wide fun b _ _ => hall (by simp) b) _ _ hrl) off⟩
          have := cellsAt_of_heap hh off (vs.drop off).length
          rwa [List.take_length] at this

theorem run_callFn {f : FuncId} (he : Enters P f) {args : Array Operand} {ats : Array TypeId} {a : Act} {w : World} : (execOp a.eval ⟨dst, .call ⟨.value (.func f), args, ats⟩, ty, ps, af, gd⟩).run P w = .ok (.enter f (args.map a.eval)) w := by
  have he' : (callFunc f (args.map a.eval ++ #[])).run P w = .ok (.enter f (args.map a.eval ++ #[])) w := he _ w
  rw [Array.append_empty] at he'
  simp [execOp, resolve, Deferred.ofValue, Act.eval, invoke, he']

theorem does_call {f : FuncId} {args : Array Operand} {ats : Array TypeId} {dvs : List DV} {rd : List Nat} {r : DV} (he : Enters P f) (hv : viewL s args.toList = some (dvs, rd)) (hAC : AC P f dvs r) (hfl : rd = [] ∨ r.flat = true) :
    Does P ⟨dst, .call ⟨.value (.func f), args, ats⟩, ty, ps, af, gd⟩ s rd (.put (.d r)) :=
  ⟨fun c s' φ a w K Q hR hop hrd hd _ hK => by
    unfold Oper.wp
    rw [run_callFn he]
    haveI : GlobI w := ⟨hR.below.glob⟩
    show Calls P f (args.map a.eval) w _
    have hops : ∀ x ∈ args.toList, ge (s'.ev x) (s.ev x) := fun x hx => hop x (by
      show x ∈ #[Operand.func f] ++ args
      exact Array.mem_append.2 (.inr (by simpa using hx)))
    have hargs : args.map a.eval = (args.toList.map a.eval).toArray := by rw [← Array.toList_map, Array.toArray_toList]
    rw [hargs]
    rcases Bool.eq_false_or_eq_true r.flat with hf | hf
    · refine (hAC (fun _ => True) w _ (viewL_rep hR args.toList dvs rd hops hv hrd (fun _ _ _ => trivial) (fun _ _ => trivial))).mono ?_
      rintro e w' ⟨v, rfl, hr, hb⟩
      have hR' := hR.below' hb
      exact hK _ _ _ (hR'.put hd (rep_flat r v hf hr))
    · have hrd0 : rd = [] := hfl.resolve_right (fun h => by rw [hf] at h; cases h)
      refine (hAC (fun b => okOf c φ s' b ∧ b < w.heap.size) w _ (viewL_rep hR args.toList dvs rd hops hv hrd (fun b h1 h2 => ⟨h1, h2⟩) (fun h => absurd hrd0 h))).mono ?_
      rintro e w' ⟨v, rfl, hr, hb⟩
      have hR' := hR.below' hb
      refine hK _ _ _ (hR'.put hd (DV.rep_keeps (Keeps.wide fun b hb1 _ => ?_) r v hr))
      rcases hb1 with hb1 | hb1
      · exact hb1.1
      · refine .inr ⟨.inl (Nat.le_trans hR.below.size hb1), fun nm hnm => ?_⟩
        have := hR.lt hnm
        omega
  ⟩

theorem does_callO {d : Nat} {f : FuncId} {args : Array Operand} {ats : Array TypeId} {dvs : List DV} {rd : List Nat} {e n sz : Nat} {cs : List DV} (he : Enters P f) (hv : viewL s args.toList = some (dvs, rd)) (hAC : ACo P f dvs e n sz cs) (hfl : rd = [] ∨ DV.flatL cs = true) :
    Does P ⟨some d, .call ⟨.value (.func f), args, ats⟩, ty, ps, af, gd⟩ s rd (.newBlk ⟨e, cs⟩ (.lsl d 0 n sz)) :=
  ⟨fun c s' φ a w K Q hR hop hrd hd _ hK => by
    unfold Oper.wp
    rw [run_callFn he]
    haveI : GlobI w := ⟨hR.below.glob⟩
    show Calls P f (args.map a.eval) w _
    have hops : ∀ x ∈ args.toList, ge (s'.ev x) (s.ev x) := fun x hx => hop x (by
      show x ∈ #[Operand.func f] ++ args
      exact Array.mem_append.2 (.inr (by simpa using hx)))
    have hargs : args.map a.eval = (args.toList.map a.eval).toArray := by rw [← Array.toList_map, Array.toArray_toList]
    rw [hargs]
    have fin : ∀ g cap w', w.heap.size ≤ g → n ≤ cap → cap ≤ maxLen → BlkAt (okNew c s' φ w g) w' (g, cap * sz) ⟨e, cs⟩ → Below w.heap.size w w' → K (a.put (some d) (.slice (some ⟨g, 0, none⟩) n cap)) w' := fun g cap w' hg h1 h2 hblk hb => by
      refine hK _ _ _ (hR.newBlk hb (hd d rfl) hg hblk ?_)
      refine ⟨cap, ?_, h1, h2, ?_⟩
      · rw [upd_same]
      · rw [upd_same]; simp
    rcases Bool.eq_false_or_eq_true (DV.flatL cs) with hf | hf
    · refine (hAC (fun _ => True) w _ (viewL_rep hR args.toList dvs rd hops hv hrd (fun _ _ _ => trivial) (fun _ _ => trivial))).mono ?_
      rintro _ w' ⟨g, cap, rfl, hg, h1, h2, ⟨vs, ex, h3, h4, h5, h6⟩, hb⟩
      exact fin g cap w' hg h1 h2 ⟨vs, ex, h3, h4, h5, repL_flat _ _ hf h6⟩ hb
    · have hrd0 : rd = [] := hfl.resolve_right (fun h => by rw [hf] at h; cases h)
      refine (hAC (fun b => okOf c φ s' b ∧ b < w.heap.size) w _ (viewL_rep hR args.toList dvs rd hops hv hrd (fun b h1 h2 => ⟨h1, h2⟩) (fun h => absurd hrd0 h))).mono ?_
      rintro _ w' ⟨g, cap, rfl, hg, h1, h2, h3, hb⟩
      exact fin g cap w' hg h1 h2 h3 hb
  ⟩

/-! ## append -/

inductive Src (s : AS) (x : Operand) : Nat → List DV → List Nat → Prop
  | sl {m cs} (h : s.ev x = .d (.slice m cs)) : Src s x m cs []
  | own {nm off m sz blk} (h : s.ev x = .lsl nm off m sz) (hm : s.mem nm = some blk) : Src s x m ((blk.cells.drop off).take (m * sz)) [nm]

theorem Src.rep {c : Ctx} {s' : AS} {φ : Nat → Nat × Nat} {a : Act} {w : World} (hR : R c s' φ a w) {m : Nat} {cs : List DV} {rd : List Nat} (h : Src s x m cs rd) (hg : ge (s'.ev x) (s.ev x)) (hm : ∀ n ∈ rd, s'.mem n = s.mem n) (hne : cs ≠ []) :
    ∃ b o cap vs, a.eval x = .slice (some ⟨b, o, none⟩) m cap ∧ CellsAt w b o vs ∧ Ones vs ∧ DV.repL (okOf c φ s') w cs vs := by
  cases h with
  | sl h =>
    have h1 := ge_d hR hg h
    rw [DV.rep] at h1
    obtain ⟨A, cap, e1, _, _, h3⟩ := h1
    obtain ⟨b, o, vs, rfl, _, _, hc, ho, hr⟩ := h3 hne
    exact ⟨b, o, cap, vs, e1, hc, ho, hr⟩
  | @own nm off m sz blk h hb =>
    have hm' : s'.mem nm = some blk := (hm nm (by simp)).trans hb
    obtain ⟨cap, e1, _⟩ := ge_lsl hR hg h
    obtain ⟨vs, ex, hh, hlen, ho, hrl⟩ := hR.mem nm blk hm'
    exact ⟨_, off, cap, (vs.drop off).take (m * sz), e1, cellsAt_of_heap hh off _, fun u hu => ho u (List.mem_of_mem_drop (List.mem_of_mem_take hu)), repL_take (repL_drop hrl off) _⟩

theorem does_app {d nm n e sz bytes m : Nat} {zs : List Value} {blk : Blk} {cs : List DV} {rd : List Nat} (ht : sliOf P t = some (e, sz, bytes, zs)) (hx : s.ev x = .lsl nm 0 n sz) (hm : s.mem nm = some blk) (hty : blk.ty = e) (hl : blk.cells.length = n * sz)
    (hy : Src s y m cs rd) (hcl : cs.length = m * sz) (hpos : 0 < m) (hb : (n + m) * bytes ≤ 140737488355328) (hb2 : n + m ≤ 140737488355328) : Does P ⟨some d, .call ⟨.builtin .append, #[x, y], #[t, t]⟩, ty, ps, af, gd⟩ s (nm :: rd) (.app nm ⟨e, blk.cells ++ cs⟩ (.lsl d 0 (n + m) sz)) :=
  ⟨fun c s' φ a w K Q hR hop hrd hd _ hK => by
    obtain ⟨i, z, hu, hi, hz, hsz, hby, hzc, hzs, hpos2, ho⟩ := sliOf_parts ht
    have hm' : s'.mem nm = some blk := (hrd nm (by simp)).trans hm
    obtain ⟨cap, e1, h1, h2, h3⟩ := ge_lsl hR (hop x (by simp [Op.operands, Call.operands])) hx
    have hne : cs ≠ [] := by
      intro h0; rw [h0] at hcl; have := Nat.mul_pos hpos hpos2; simp at hcl; omega
    obtain ⟨b, o, cap2, vs2, e2, hc2, ho2, hr2⟩ := Src.rep hR hy (hop y (by simp [Op.operands, Call.operands])) (fun n hn => hrd n (by simp [hn])) hne
    obtain ⟨vs, ex, hh, hlen, hov, hrv⟩ := hR.mem nm blk hm'
    have hvl := repL_length hrv
    have hvl2 := repL_length hr2
    have hown : w.ownsRow 0 e sz (.slice (some ⟨(φ nm).1, 0, none⟩) n cap) n vs := by
      refine ⟨by omega, .inr ⟨(φ nm).1, cap, (vs ++ ex).toArray, rfl, Nat.zero_le _, by rw [← hty]; exact hh, h1, h2, by simp at hlen h3 ⊢; omega, ?_⟩⟩
      rw [← hl, ← hvl]; simp
    obtain ⟨v', w', hrun, h4, h5, h6, h7⟩ := run_append_own_at (P := P) w 0 t ty e i z sz bytes hu hi hz hsz hby hzs hpos2 _ n vs hown ⟨b, o, none⟩ m cap2 vs2 (by omega) (at_add hc2) ho2 (by unfold maxLen; omega) hb (Nat.zero_le _)
    obtain ⟨hx1, hx2⟩ := h4
    rcases hx2 with ⟨_, h0⟩ | ⟨g, cap3, cur, rfl, hg, hgh, h8, h9, h10, h11⟩
    · omega
    unfold Oper.wp
    have hrun2 : (execOp a.eval ⟨some d, .call ⟨.builtin .append, #[x, y], #[t, t]⟩, ty, ps, af, gd⟩).run P w = .ok (.value (.slice (some ⟨g, 0, none⟩) (n + m) cap3)) w' := by
      simp only [execOp, resolve, invoke, builtin, Sem.run_bind, Sem.run_pure, Result.andThen_ok, List.map_toArray, List.map_cons, List.map_nil, e1, e2, hrun]
    rw [hrun2]
    have hgn : g = (φ nm).1 ∨ w.heap.size ≤ g := by
      simp only [Value.ownBlock, Option.some.injEq] at h7
      rcases h7 with h7 | h7
      · exact .inl h7
      · exact .inr (by omega)
    have hsplit : cur.toList = (vs ++ vs2) ++ cur.toList.drop ((n + m) * sz) := by rw [← h11, List.take_append_drop]
    have hkk : Keeps (okOf c φ s') w (fun b => okOf c φ s' b ∧ b < w.heap.size) w' := by
      refine ⟨fun b h1 h2 => ⟨h1, h2⟩, h5.size, fun b o u hb hl hc => ?_⟩
      have hB := hR.own nm blk hm'
      have : w'.heap[b]? = w.heap[b]? := h5.block b hl (fun e => by
        simp only [Value.ownBlock, Option.some.injEq] at e
        rcases hb with ⟨hb, _, hxx⟩ | ⟨_, hb⟩
        · subst e
          rcases hB with hB | hB
          · omega
          · exact hxx hB
        · exact hb nm (by rw [hm']; simp) e.symm)
      exact (World.cell?_of_block (a := ⟨b, o, none⟩) this).trans hc
    have hblk : BlkAt (fun b => okOf c φ s' b ∧ b < w.heap.size) w' (g, cap3 * sz) ⟨e, blk.cells ++ cs⟩ := by
      refine ⟨vs ++ vs2, cur.toList.drop ((n + m) * sz), ?_, ?_, ?_, ?_⟩
      · rw [hgh]; congr 2; rw [← hsplit]
      · rw [← hsplit]; simp [h10]
      · intro u hu
        rcases List.mem_append.1 hu with hu | hu
        · exact hov u hu
        · exact ho2 u hu
      · exact repL_append (DV.repL_keeps hkk _ _ hrv) (DV.repL_keeps hkk _ _ hr2)
    refine hK _ _ _ (hR.app hm' h5 (hd d rfl) hgn hblk ?_)
    refine ⟨cap3, ?_, h8, h9, ?_⟩
    · rw [upd_same]
    · rw [upd_same]; simp
  ⟩

theorem does_appV {d nm n e sz bytes m : Nat} {zs : List Value} {blk : Blk} {cs : List DV} {rd : List Nat} (ht : sliOf P t = some (e, sz, bytes, zs)) (hx : s.ev x = .lsl nm 0 n sz) (hm : s.mem nm = some blk) (hty : blk.ty = e) (hl : blk.cells.length = n * sz)
    (hy : Src s y m cs rd) (hcl : cs.length = m * sz) (hpos : 0 < m) (hb : (n + m) * bytes ≤ 140737488355328) (hb2 : n + m ≤ 140737488355328) : Does P ⟨some d, .call ⟨.builtin .append, #[x, y], #[t, t]⟩, ty, ps, af, gd⟩ s (nm :: rd) (.appV nm (.d (.slice (n + m) (blk.cells ++ cs)))) :=
  ⟨fun c s' φ a w K Q hR hop hrd hd _ hK => by
    obtain ⟨i, z, hu, hi, hz, hsz, hby, hzc, hzs, hpos2, ho⟩ := sliOf_parts ht
    have hm' : s'.mem nm = some blk := (hrd nm (by simp)).trans hm
    obtain ⟨cap, e1, h1, h2, h3⟩ := ge_lsl hR (hop x (by simp [Op.operands, Call.operands])) hx
    have hne : cs ≠ [] := by
      intro h0; rw [h0] at hcl; have := Nat.mul_pos hpos hpos2; simp at hcl; omega
    obtain ⟨b, o, cap2, vs2, e2, hc2, ho2, hr2⟩ := Src.rep hR hy (hop y (by simp [Op.operands, Call.operands])) (fun n hn => hrd n (by simp [hn])) hne
    obtain ⟨vs, ex, hh, hlen, hov, hrv⟩ := hR.mem nm blk hm'
    have hvl := repL_length hrv
    have hvl2 := repL_length hr2
    have hown : w.ownsRow 0 e sz (.slice (some ⟨(φ nm).1, 0, none⟩) n cap) n vs := by
      refine ⟨by omega, .inr ⟨(φ nm).1, cap, (vs ++ ex).toArray, rfl, Nat.zero_le _, by rw [← hty]; exact hh, h1, h2, by simp at hlen h3 ⊢; omega, ?_⟩⟩
      rw [← hl, ← hvl]; simp
    obtain ⟨v', w', hrun, h4, h5, h6, h7⟩ := run_append_own_at (P := P) w 0 t ty e i z sz bytes hu hi hz hsz hby hzs hpos2 _ n vs hown ⟨b, o, none⟩ m cap2 vs2 (by omega) (at_add hc2) ho2 (by unfold maxLen; omega) hb (Nat.zero_le _)
    obtain ⟨hx1, hx2⟩ := h4
    rcases hx2 with ⟨_, h0⟩ | ⟨g, cap3, cur, rfl, hg, hgh, h8, h9, h10, h11⟩
    · omega
    unfold Oper.wp
    have hrun2 : (execOp a.eval ⟨some d, .call ⟨.builtin .append, #[x, y], #[t, t]⟩, ty, ps, af, gd⟩).run P w = .ok (.value (.slice (some ⟨g, 0, none⟩) (n + m) cap3)) w' := by
      simp only [execOp, resolve, invoke, builtin, Sem.run_bind, Sem.run_pure, Result.andThen_ok, List.map_toArray, List.map_cons, List.map_nil, e1, e2, hrun]
    rw [hrun2]
    have hgn : g = (φ nm).1 ∨ w.heap.size ≤ g := by
      simp only [Value.ownBlock, Option.some.injEq] at h7
      rcases h7 with h7 | h7
      · exact .inl h7
      · exact .inr (by omega)
    have hsplit : cur.toList = (vs ++ vs2) ++ cur.toList.drop ((n + m) * sz) := by rw [← h11, List.take_append_drop]
    have hkk : Keeps (okOf c φ s') w (fun b => okOf c φ s' b ∧ b < w.heap.size) w' := by
      refine ⟨fun b h1 h2 => ⟨h1, h2⟩, h5.size, fun b o u hb hl hc => ?_⟩
      have hB := hR.own nm blk hm'
      have : w'.heap[b]? = w.heap[b]? := h5.block b hl (fun e => by
        simp only [Value.ownBlock, Option.some.injEq] at e
        rcases hb with ⟨hb, _, hxx⟩ | ⟨_, hb⟩
        · subst e
          rcases hB with hB | hB
          · omega
          · exact hxx hB
        · exact hb nm (by rw [hm']; simp) e.symm)
      exact (World.cell?_of_block (a := ⟨b, o, none⟩) this).trans hc
    have hblk : BlkAt (fun b => okOf c φ s' b ∧ b < w.heap.size) w' (g, cap3 * sz) ⟨e, blk.cells ++ cs⟩ := by
      refine ⟨vs ++ vs2, cur.toList.drop ((n + m) * sz), ?_, ?_, ?_, ?_⟩
      · rw [hgh]; congr 2; rw [← hsplit]
      · rw [← hsplit]; simp [h10]
      · intro u hu
        rcases List.mem_append.1 hu with hu | hu
        · exact hov u hu
        · exact ho2 u hu
      · exact repL_append (DV.repL_keeps hkk _ _ hrv) (DV.repL_keeps hkk _ _ hr2)
    have hRa := hR.app (r := .lsl d 0 (n + m) sz) (v := .slice (some ⟨g, 0, none⟩) (n + m) cap3) hm' h5 (hd d rfl) hgn hblk ?_
    have hRf := hRa.freeze (nm := d) (blk := ⟨e, blk.cells ++ cs⟩) (upd_same _ _ _)
    refine hK _ _ _ (hRf.weaken ⟨fun k => ?_, fun n b hb => ?_⟩)
    · show upd (fun i => ((s'.fr i).kill nm).kill d) d (.d (.slice (n + m) (blk.cells ++ cs))) k = .d .any ∨ upd (fun i => ((s'.fr i).kill nm).kill d) d (.d (.slice (n + m) (blk.cells ++ cs))) k = (upd (fun i => ((s'.fr i).kill nm).kill d) d (.lsl d 0 (n + m) sz) k).frz d (blk.cells ++ cs)
      by_cases e : k = d
      · subst e
        refine .inr ?_
        rw [upd_same, upd_same]
        simp only [AV.frz, BEq.rfl, cond_true]
        rw [List.drop_zero, List.take_of_length_le (by rw [List.length_append, hl, hcl, Nat.add_mul]; exact Nat.le_refl _)]
      · rw [upd_ne _ _ e, upd_ne _ _ e]
        cases (s'.fr k).kill nm with
        | d x => exact .inr rfl
        | ptr m off => cases hh : m == d <;> simp [AV.kill, AV.frz, hh]
        | lsl m off len sz => cases hh : m == d <;> simp [AV.kill, AV.frz, hh]
        | dep a b f => cases hh : (a == d || b == d) <;> simp only [AV.kill, AV.frz, hh, cond_true, cond_false] <;> simp
    · have hb : upd (upd s'.mem nm none) d none n = some b := hb
      show upd (upd (upd s'.mem nm none) d _) d none n = some b
      by_cases e : n = d
      · subst e; rw [upd_same] at hb; cases hb
      · rw [upd_ne _ _ e] at hb ⊢; rw [upd_ne _ _ e]; exact hb
    exact ⟨cap3, by rw [upd_same], h8, h9, by rw [upd_same]; simp⟩
  ⟩

theorem does_appN {d e sz bytes m : Nat} {zs : List Value} {cs : List DV} {rd : List Nat} (ht : sliOf P t = some (e, sz, bytes, zs)) (hx : s.ev x = .d (.val (.slice none 0 0)))
    (hy : Src s y m cs rd) (hcl : cs.length = m * sz) (hpos : 0 < m) (hb : m * bytes ≤ 140737488355328) (hb2 : m ≤ 140737488355328) : Does P ⟨some d, .call ⟨.builtin .append, #[x, y], #[t, t]⟩, ty, ps, af, gd⟩ s rd (.newBlk ⟨e, cs⟩ (.lsl d 0 m sz)) :=
  ⟨fun c s' φ a w K Q hR hop hrd hd _ hK => by
    obtain ⟨i, z, hu, hi, hz, hsz, hby, hzc, hzs, hpos2, ho⟩ := sliOf_parts ht
    have e1 := ge_val hR (hop x (by simp [Op.operands, Call.operands])) hx
    have hne : cs ≠ [] := by
      intro h0; rw [h0] at hcl; have := Nat.mul_pos hpos hpos2; simp at hcl; omega
    obtain ⟨b, o, cap2, vs2, e2, hc2, ho2, hr2⟩ := Src.rep hR hy (hop y (by simp [Op.operands, Call.operands])) (fun n hn => hrd n hn) hne
    have hvl2 := repL_length hr2
    obtain ⟨v', w', hrun, h4, h5, h6, h7⟩ := run_append_own_at (P := P) w w.heap.size t ty e i z sz bytes hu hi hz hsz hby hzs hpos2 _ 0 [] (World.ownsRow_nil _ _ _ _) ⟨b, o, none⟩ m cap2 vs2 (by omega) (at_add hc2) ho2 (by unfold maxLen; omega) (by simpa using hb) (Nat.le_refl _)
    obtain ⟨hx1, hx2⟩ := h4
    rcases hx2 with ⟨_, h0⟩ | ⟨g, cap3, cur, rfl, hg, hgh, h8, h9, h10, h11⟩
    · omega
    rw [Nat.zero_add] at h8 h11 hrun
    rw [List.nil_append] at h11
    unfold Oper.wp
    have hrun2 : (execOp a.eval ⟨some d, .call ⟨.builtin .append, #[x, y], #[t, t]⟩, ty, ps, af, gd⟩).run P w = .ok (.value (.slice (some ⟨g, 0, none⟩) m cap3)) w' := by
      simp only [execOp, resolve, invoke, builtin, Sem.run_bind, Sem.run_pure, Result.andThen_ok, List.map_toArray, List.map_cons, List.map_nil, e1, e2, hrun]
    rw [hrun2]
    have hb3 : Below w.heap.size w w' := ⟨h5.os, h5.tape, h5.output, h5.size, fun k hk => h5.block k hk (by simp [Value.ownBlock])⟩
    have hsplit : cur.toList = vs2 ++ cur.toList.drop (m * sz) := by rw [← h11, List.take_append_drop]
    have hkk : Keeps (okOf c φ s') w (okNew c s' φ w g) w' := ⟨fun b h1 h2 => .inl ⟨h1, h2⟩, h5.size, fun b o u _ hl hc => (World.cell?_of_block (a := ⟨b, o, none⟩) (hb3.block b hl)).trans hc⟩
    refine hK _ _ _ (hR.newBlk hb3 (hd d rfl) hg (n := cap3 * sz) ⟨vs2, cur.toList.drop (m * sz), ?_, ?_, ho2, DV.repL_keeps hkk _ _ hr2⟩ ?_)
    · show w'.heap[g]? = _
      rw [hgh]; congr 2; rw [← hsplit]
    · rw [← hsplit]; simp [h10]
    · refine ⟨cap3, ?_, h8, h9, ?_⟩
      · rw [upd_same]
      · rw [upd_same]; simp
  ⟩

/-! ## Numbers -/

theorem does_max {a b : Int} (hx : s.ev x = .d (.val (.int k a))) (hy : s.ev y = .d (.val (.int k b))) {ats : Array TypeId} : Does P ⟨dst, .call ⟨.builtin .max, #[x, y], ats⟩, ty, ps, af, gd⟩ s [] (.put (.d (.val (.int k (max a b))))) :=
  does_pure fun c s' φ a' w hR hop => by
    have e1 := ge_val hR (hop x (by simp [Op.operands, Call.operands])) hx
    have e2 := ge_val hR (hop y (by simp [Op.operands, Call.operands])) hy
    refine ⟨_, ?_, (rep_val (ok := okOf c φ s') (w := w)).2 rfl⟩
    have : (if b > a then b else a) = max a b := by split <;> omega
    simp [execOp, resolve, invoke, builtin, e1, e2, Builtin.max_, Builtin.max2, this]
theorem does_min {a b : Int} (hx : s.ev x = .d (.val (.int k a))) (hy : s.ev y = .d (.val (.int k b))) {ats : Array TypeId} : Does P ⟨dst, .call ⟨.builtin .min, #[x, y], ats⟩, ty, ps, af, gd⟩ s [] (.put (.d (.val (.int k (min a b))))) :=
  does_pure fun c s' φ a' w hR hop => by
    have e1 := ge_val hR (hop x (by simp [Op.operands, Call.operands])) hx
    have e2 := ge_val hR (hop y (by simp [Op.operands, Call.operands])) hy
    refine ⟨_, ?_, (rep_val (ok := okOf c φ s') (w := w)).2 rfl⟩
    have : (if b < a then b else a) = min a b := by split <;> omega
    simp [execOp, resolve, invoke, builtin, e1, e2, Builtin.min_, Builtin.min2, this]

theorem does_conv {a : Int} {k' : IntKind} {r : Int} (hs : (P.underlying t).isSome = true) (ht : P.underlying t' = some (.int k')) (hx : s.ev x = .d (.val (.int k a))) (hr : k'.wrap a = r) : Does P ⟨dst, .convert t t' x, ty, ps, af, gd⟩ s [] (.put (.d (.val (.int k' r)))) :=
  does_pure fun c s' φ a' w hR hop => by
    have e1 := ge_val hR (hop x (by simp [Op.operands])) hx
    refine ⟨_, ?_, (rep_val (ok := okOf c φ s') (w := w)).2 rfl⟩
    subst hr
    cases hu : P.underlying t with
    | none => rw [hu] at hs; cases hs
    | some d => simp [execOp, e1, convert, run_underlying hu w, run_underlying ht w, Conv.intToInt]

/-! ## Parts of values, slices of slices -/

theorem run_slice {e : TypeId} {sz : Nat} {i : TypeInfo} (hu : P.underlying t = some (.slice e)) (hi : P.info? e = some i) (hsz : i.size = sz) {A : Option Addr} {len cap : Nat} {lo hi' : Int} {k1 k2 : IntKind} (h0 : 0 ≤ lo) (h1 : lo ≤ hi') (h2 : hi' ≤ cap) (w : World) :
    (Instr.sliceAt t (.slice A len cap) (some (.int k1 lo)) (some (.int k2 hi')) none).run P w = .ok (.slice (if cap = lo.toNat then A else A.map (·.add (lo.toNat * sz))) (hi'.toNat - lo.toNat) (cap - lo.toNat)) w := by
  obtain ⟨H, rfl⟩ := Int.eq_ofNat_of_zero_le (show 0 ≤ hi' by omega)
  obtain ⟨L, rfl⟩ := Int.eq_ofNat_of_zero_le h0
  have e2 : L ≤ H := by omega
  have e3 : H ≤ cap := by omega
  simp [e2, e3, Instr.sliceAt, Sem.run_bind, run_underlying hu w, Instr.slice, Instr.sliceBounds, Instr.sliceBound, asIntOf, sizeOf, typeInfo, hi, hsz]

end
end Go.Proofs.Ytgjhikjnlcbmkaa
