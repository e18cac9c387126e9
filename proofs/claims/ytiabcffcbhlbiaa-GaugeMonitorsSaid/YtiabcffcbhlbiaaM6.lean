/- Ranges over functions: the iterator's side. Nothing of the program. -/
import Derived.Test.YtiabcffcbhlbiaaM5
set_option linter.unusedVariables false
set_option linter.unusedSimpArgs false
namespace Go.Proofs.Ytiabcffcbhlbiaa
open Go.RowKit

/-- What is known behind k rounds (2 k), and when the k-th round was the last one (2 k + 1). -/
def J2 (J Jx : Ghost) : Ghost := fun m K W => (m % 2 = 0 ∧ J (m / 2) K W) ∨ (m % 2 = 1 ∧ Jx (m / 2) K W)
theorem Stable.J2 {J Jx : Ghost} (h : Stable J) (h2 : Stable Jx) : Stable (Go.Proofs.Ytiabcffcbhlbiaa.J2 J Jx) := fun k K w w' hj hs hb => hj.imp (fun ⟨a, b⟩ => ⟨a, h _ _ _ _ b hs hb⟩) (fun ⟨a, b⟩ => ⟨a, h2 _ _ _ _ b hs hb⟩)
theorem J2.even {J Jx : Ghost} {k : Nat} {K : Nat → Prop} {W : World} : J2 J Jx (2 * k) K W ↔ J k K W := by
  have h1 : 2 * k % 2 = 0 := by omega
  have h2 : 2 * k / 2 = k := by omega
  unfold J2
  rw [h1, h2]
  simp
theorem J2.odd {J Jx : Ghost} {k : Nat} {K : Nat → Prop} {W : World} : J2 J Jx (2 * k + 1) K W ↔ Jx k K W := by
  have h1 : (2 * k + 1) % 2 = 1 := by omega
  have h2 : (2 * k + 1) / 2 = k := by omega
  unfold J2
  rw [h1, h2]
  simp
/-- The count of the rounds, as the frame bears it. -/
def cntV (k : Nat) : AV := .d (.val (.int .i64 ((2 * k : Nat) : Int)))
def stpV (k : Nat) : AV := .d (.val (.int .i64 ((2 * k + 1 : Nat) : Int)))

def itJ (J : Ghost) (fz0 : Nat → Prop) (w1 : World) (ok1 ex1 : Nat → Prop) (k : Nat) (K : Nat → Prop) (W : World) : Prop := J k K W ∧ ∀ b, K b → b < w1.heap.size ∧ ¬ ex1 b ∧ (ok1 b → fz0 b)
/-- An iterator's context, between two rounds. -/
@[reducible] def itc (J : Ghost) (sJ : Stable J) (fz0 : Nat → Prop) (nt : Nat) (w1 : World) (ok1 ex1 : Nat → Prop) : Ctx :=
  ⟨w1, ok1, nt, none, true, ex1, fun _ => undef, itJ J fz0 w1 ok1 ex1, fun k K w w' h h1 h2 h3 h4 h5 => ⟨sJ k K w w' h.1 ⟨h1, h2, h3, h4⟩ h5, h.2⟩⟩
@[reducible] def itF (w0 : World) (J : Ghost) (sJ : Stable J) (fz0 : Nat → Prop) (nt : Nat) : Fam := ⟨fun c => ∃ w1 ok1 ex1, c = itc J sJ fz0 nt w1 ok1 ex1 ∧ SameW w0 w1, nt, none, by rintro c ⟨_, _, _, rfl, _⟩; exact ⟨rfl, rfl⟩⟩

theorem rebase {J : Ghost} {sJ : Stable J} {fz0 : Nat → Prop} {nt : Nat} {w1 W W' : World} {ok1 ex1 : Nat → Prop} {t : AS} {φ : Nat → Nat × Nat} {a : Act} (h : R (itc J sJ fz0 nt w1 ok1 ex1) t φ a W) {K K' : Nat → Prop}
    (hK1 : ∀ b, K b → b < w1.heap.size ∧ ¬ ex1 b ∧ (ok1 b → fz0 b)) (hK2 : ∀ nm, t.mem nm ≠ none → ¬ K (φ nm).1) (hs : SameW W W') (hKK : ∀ b, K' b → K b ∨ W.heap.size ≤ b) (hKlt : ∀ b, K' b → b < W'.heap.size)
    (hkeep : ∀ b, b < W.heap.size → (fz0 b ∨ ¬ K b) → (∀ nm, t.mem nm ≠ none → (φ nm).1 ≠ b) → W'.heap[b]? = W.heap[b]?)
    (hmem : ∀ nm blk, t.mem nm = some blk → W'.heap[(φ nm).1]? = W.heap[(φ nm).1]? ∨ BlkAt (fun _ => False) W' (φ nm) blk) {m : Nat} (hJ : J m K' W') :
    ∃ ok2 ex2, R (itc J sJ fz0 nt W' ok2 ex2) ⟨upd t.fr VG (.d (.val (.int .i64 (m : Int)))), t.mem⟩ φ a W' := by
  have hun : ∀ b, okOf (itc J sJ fz0 nt w1 ok1 ex1) φ t b → ∀ nm, t.mem nm ≠ none → (φ nm).1 ≠ b := fun b hb nm hn e => by
    rcases hb with ⟨h1, _, h3⟩ | ⟨_, h2⟩
    · obtain ⟨blk, hblk⟩ := Option.ne_none_iff_exists'.1 hn
      rcases h.own nm blk hblk with h4 | h4
      · rw [e] at h4; exact absurd h1 (Nat.not_lt.2 h4)
      · rw [e] at h4; exact h3 h4
    · exact h2 nm hn e
  have hfz : ∀ b, okOf (itc J sJ fz0 nt w1 ok1 ex1) φ t b → fz0 b ∨ ¬ K b := fun b hb => by
    by_cases hk : K b
    · obtain ⟨k1, k2, k3⟩ := hK1 b hk
      rcases hb with ⟨_, h2, _⟩ | ⟨h1 | h1, _⟩
      · exact .inl (k3 h2)
      · exact absurd k1 (Nat.not_lt.2 h1)
      · exact absurd h1 k2
    · exact .inr hk
  have hd0 : a.defers = [] := by
    obtain ⟨Ds, h1, _, h3⟩ := h.defers
    cases Ds with
    | nil => exact h1
    | cons D Ds => have := (h3 D (by simp)).1.1; cases this
  obtain ⟨c2, hc2⟩ : ∃ c2, c2 = itc J sJ fz0 nt W' (fun b => okOf (itc J sJ fz0 nt w1 ok1 ex1) φ t b ∧ b < W.heap.size) (named t φ) := ⟨_, rfl⟩
  have hk : Keeps (okOf (itc J sJ fz0 nt w1 ok1 ex1) φ t) W (okOf c2 φ ⟨upd t.fr VG (.d (.val (.int .i64 (m : Int)))), t.mem⟩) W' := by
    refine ⟨fun b hb hlt => ?_, hs.size, fun b o u hok hlt hc => (World.cell?_of_block (a := ⟨b, o, none⟩) (hkeep b hlt (hfz b hok) (hun b hok))).trans hc⟩
    rw [hc2]
    exact .inl ⟨Nat.lt_of_lt_of_le hlt hs.size, ⟨hb, hlt⟩, fun ⟨nm, hn, e⟩ => hun b hb nm hn e⟩
  refine ⟨fun b => okOf (itc J sJ fz0 nt w1 ok1 ex1) φ t b ∧ b < W.heap.size, named t φ, ?_⟩
  rw [← hc2]
  have e1 : c2.w0 = W' := by rw [hc2]
  have e2 : c2.ex = named t φ := by rw [hc2]
  have e3 : c2.nt = nt := by rw [hc2]
  have e4 : c2.gv = fun _ => undef := by rw [hc2]
  refine ⟨by rw [e1]; exact BelowX.refl _ _, ⟨[], hd0, List.nodup_nil, fun D hD => by cases hD⟩, by rw [e3]; exact h.size, by rw [e3]; exact h.ntv, fun i hi => ?_, fun nm blk hn => .inr (by rw [e2]; exact ⟨nm, by rw [show t.mem nm = some blk from hn]; simp, rfl⟩), fun nm blk hn => ?_, h.inj, fun k hk => ?_⟩
  · show (upd t.fr VG _ i).rep _ φ W' _
    rw [upd_ne _ _ hi]
    have h1 := AV.rep_keeps hk (h.fr i hi)
    have h2 : slotAt c2 a φ i = slotAt (itc J sJ fz0 nt w1 ok1 ex1) a φ i := by unfold slotAt; rw [e4]
    rw [h2]; exact h1
  · rcases hmem nm blk hn with h1 | h1
    · exact (h.mem nm blk hn).keeps hk h1
    · exact h1.keeps (Keeps.wide fun b hb _ => hb.elim) rfl
  · have hk : upd t.fr VG (.d (.val (.int .i64 (m : Int)))) VG = .d (.val (.int .i64 (k : Int))) := hk
    rw [upd_same] at hk
    have hkm : k = m := by
      injection hk with hk; injection hk with hk; injection hk with _ hk
      omega
    subst hkm
    have hnK : ∀ b, named t φ b → ¬ K' b := fun b ⟨nm, hn, e⟩ hb => by
      rcases hKK b hb with h1 | h1
      · exact hK2 nm hn (e ▸ h1)
      · have := h.lt hn; omega
    refine ⟨K', ?_, fun nm hn hb => hnK _ ⟨nm, hn, rfl⟩ hb, hKlt, fun D hD => by rw [hd0] at hD; cases hD⟩
    rw [hc2]
    refine ⟨hJ, fun b hb => ⟨hKlt b hb, fun hn => hnK b hn hb, fun hok => ?_⟩⟩
    rcases hKK b hb with h1 | h1
    · exact (hfz b hok.1).resolve_right fun h2 => h2 h1
    · exact absurd hok.2 (Nat.not_lt.2 h1)

/-- What an iterator's walk may do with its yield. -/
structure Itr (P : Program) (c : Fam) (l : Nat) (xs : List YA) (fin : Bool) : Prop where
  run : ∃ w0 J Jx sJ fz0 nt, c = itF w0 (J2 J Jx) sJ fz0 nt ∧ (fin = false → ∀ K W, ¬ J xs.length K W) ∧
    (∀ k K W d args (okA : Nat → Prop), xs[k]? = some d → J k K W → (∀ b, K b → b < W.heap.size) → d.rep K okA W args → (∀ b, okA b → b < W.heap.size ∧ (fz0 b ∨ ¬ K b)) →
      YieldAt Fence.wide 0 P l args.toArray W fun e W' => SameW W W' ∧ ∃ K', (∀ b, K b → K' b) ∧ (∀ b, K' b → K b ∨ okA b ∨ W.heap.size ≤ b) ∧ (∀ b, K' b → b < W'.heap.size) ∧ (∀ b, b < W.heap.size → (fz0 b ∨ ¬ K b) → ¬ d.shows args b → W'.heap[b]? = W.heap[b]?) ∧
        (∀ ty cells n sz g cap, d = .sl ty cells n sz → args = [.slice (some ⟨g, 0, none⟩) n cap] → BlkAt (fun _ => False) W' (g, cap * sz) ⟨ty, cells⟩) ∧
        ((e = .returned (.bool true) ∧ J (k + 1) K' W') ∨ (e = .returned (.bool false) ∧ Jx (k + 1) K' W')))

/-- Behind the last value of an iterator without an end nothing is reached. -/
theorem awp_over {P : Program} {c : Fam} {l : Nat} {xs : List YA} {code : Code} {Q : Exit → AS → Prop} {s : AS} (hI : Itr P c l xs false) (hk : s.fr VG = cntV xs.length) : AWp P c code Q s := ⟨fun φ a w ⟨c', hG, hR⟩ => by
  obtain ⟨w0, J, Jx, sJ, fz0, nt, rfl, h1, _⟩ := hI.run
  obtain ⟨w1, ok1, ex1, rfl, _⟩ := hG
  obtain ⟨K, h2, _⟩ := hR.gh _ hk
  exact absurd (J2.even.1 h2.1) (h1 rfl K w)⟩

/-- The arguments of a call of yield. -/
inductive YV (t : AS) (args : List Operand) : YA → Prop
  | gv {ds} (h : viewD t args = some ds) (hf : DV.flatL ds = true) : YV t args (.gv ds)
  | sl {x nm n sz ty cells} (ha : args = [x]) (h : t.ev x = .lsl nm 0 n sz) (hm : t.mem nm = some ⟨ty, cells⟩) (hf : DV.flatL cells = true) : YV t args (.sl ty cells n sz)

section
variable {P : Program} {ops : Array Oper} {Q : Exit → Act → World → Prop} {c : Ctx}
theorem runT_on : ∀ (l : List Oper) (is is' : List Nat) (s : AS) (K : List Rec → AS → Prop), (∀ k, k < l.length → is[k]?.bind (ops[·]?) = l[k]?) → is.length = l.length → (∀ o ∈ l, opOk c o) →
    RunT P ops l s K → ∀ (φ : Nat → Nat × Nat) (a : Act) (w : World), R c s φ a w → (∀ rs t φ' a' w', K rs t → R c t φ' a' w' → wpOpsIn (fz c.rd) 0 P ops Q is' a' w') → wpOpsIn (fz c.rd) 0 P ops Q (is ++ is') a w := by
  intro l
  induction l with
  | nil =>
    intro is is' s K hl hlen hd hrun φ a w hR hQ
    have : is = [] := List.eq_nil_of_length_eq_zero hlen
    subst this
    exact hQ [] s φ a w hrun hR
  | cons o l ih =>
    intro is is' s K hl hlen hd hrun φ a w hR hQ
    cases is with
    | nil => simp at hlen
    | cons i is =>
      have hi : ops[i]? = some o := by simpa using hl 0 (by simp)
      rw [List.cons_append, wpOpsIn_cons]
      obtain ⟨e, rd, hs, hr⟩ := hrun
      refine hs.wpOp hi hR (fun x _ => ge_refl _) (fun t b _ => ge_refl _) (fun n _ => rfl) (Lk.refl _) (hd o (by simp)) fun φ' a' w' hR' => ?_
      exact ih is is' _ _ (fun k hk => by simpa using hl (k + 1) (by simp; omega)) (by simpa using hlen) (fun o ho => hd o (by simp [ho])) hr φ' a' w' hR' fun rs t φ' a' w' hk h => hQ (⟨e, rd, tchOf o s⟩ :: rs) t φ' a' w' hk h
end

theorem run_callYield {P : Program} {l : Nat} {dst : Option Tmp} {y : Operand} {args : Array Operand} {ats : Array TypeId} {ty : TypeId} {ps : String} {af : Array Edge} {gd : Option (Nat × Bool)} {a : Act} {w : World} (hy : a.eval y = .func (.yield l) #[] #[]) :
    (execOp a.eval ⟨dst, .call ⟨.value y, args, ats⟩, ty, ps, af, gd⟩).run P w = (Instr.yield l (args.map a.eval)).run P w := by
  simp [execOp, resolve, Deferred.ofValue, hy, invoke]

theorem yv_rep {c : Ctx} {t : AS} {φ : Nat → Nat × Nat} {a : Act} {W : World} {args : List Operand} {d : YA} {K : Nat → Prop} (h : YV t args d) (hR : R c t φ a W) (hK : ∀ nm, t.mem nm ≠ none → ¬ K (φ nm).1) : d.rep K (fun _ => False) W (args.map a.eval) := by
  cases h with
  | gv h hf => exact repL_flat _ _ hf (viewD_rep hR args _ (fun _ _ => ge_refl _) h)
  | @sl x nm n sz ty cells ha h hm hf =>
    subst ha
    have h1 := hR.ev x
    rw [h] at h1
    obtain ⟨cap, h2, h3, h4, h5⟩ := h1
    obtain ⟨vs, ex, b1, b2, b3, b4⟩ := hR.mem nm _ hm
    refine ⟨(φ nm).1, cap, by rw [← h2]; rfl, h3, h4, hK nm (by rw [hm]; simp), fun h => h, hf, vs, ex, b1, ?_, b3, repL_flat cells vs hf b4⟩
    show _ = cap * sz
    omega
/-- The shown block is a named one. -/
theorem yv_shows {c : Ctx} {t : AS} {φ : Nat → Nat × Nat} {a : Act} {W : World} {args : List Operand} {d : YA} (h : YV t args d) (hR : R c t φ a W) {b : Nat} (hs : d.shows (args.map a.eval) b) :
    ∃ nm n sz cap ty cells, d = .sl ty cells n sz ∧ t.mem nm = some ⟨ty, cells⟩ ∧ (φ nm).1 = b ∧ (φ nm).2 = cap * sz ∧ args.map a.eval = [.slice (some ⟨(φ nm).1, 0, none⟩) n cap] := by
  cases h with
  | gv h hf => exact hs.elim
  | @sl x nm n sz ty cells ha h hm hf =>
    subst ha
    obtain ⟨cap', hs⟩ := hs
    have h1 := hR.ev x
    rw [h] at h1
    obtain ⟨cap, h2, h3, h4, h5⟩ := h1
    have h2 : a.eval x = .slice (some ⟨(φ nm).1, 0, none⟩) n cap := h2
    have hs : [a.eval x] = [.slice (some ⟨b, 0, none⟩) n cap'] := hs
    rw [h2] at hs
    injection hs with hs _
    obtain ⟨e1, e2⟩ := sl_inj hs
    refine ⟨nm, n, sz, cap, ty, cells, rfl, hm, e1, by omega, ?_⟩
    show [a.eval x] = _
    rw [h2]

/-- A call of yield: the round's end is told. -/
theorem awp_yield {P : Program} {c : Fam} {lN : Nat} {xs : List YA} {fin : Bool} {Q : Exit → AS → Prop} {s : AS} (hI : Itr P c lN xs fin) {id : Nat} {l pre post : List Oper} {dst : Tmp} {y : Operand} {args : Array Operand} {ats : Array TypeId} {ty : TypeId} {ps : String} {af : Array Edge}
    (hl : l = pre ++ ⟨some dst, .call ⟨.value y, args, ats⟩, ty, ps, af, none⟩ :: post) (hd : dstsB c.nt l = true) (k : Nat) (d : YA) (hx : xs[k]? = some d)
    (h : RunT P l.toArray pre s fun _ t => t.ev y = .d (.val (.func (.yield lN) #[] #[])) ∧ YV t args.toList d ∧ t.fr VG = cntV k ∧
      RunT P l.toArray post ⟨upd (upd t.fr VG (cntV (k + 1))) dst (.d (.val (.bool true))), t.mem⟩ (fun _ u => Q .normal u) ∧
      RunT P l.toArray post ⟨upd (upd t.fr VG (stpV (k + 1))) dst (.d (.val (.bool false))), t.mem⟩ (fun _ u => Q .normal u)) : AWp P c (.region id l.toArray false) Q s := ⟨fun φ a w ⟨c', hG, hR⟩ => by
  obtain ⟨w0, J, Jx, sJ, fz0, nt, rfl, _, hY⟩ := hI.run
  obtain ⟨w1, ok1, ex1, rfl, hsw⟩ := hG
  have hds : ∀ o ∈ l, opOk (itc (J2 J Jx) sJ fz0 nt w1 ok1 ex1) o := dstsB_spec l hd
  have hget : ∀ i : Nat, l.toArray[i]? = l[i]? := fun i => List.getElem?_toArray
  have hr : List.range l.toArray.size = List.range pre.length ++ pre.length :: (List.range' (pre.length + 1) post.length) := by
    rw [hl]
    simp only [List.size_toArray, List.length_append, List.length_cons, List.range_eq_range']
    rw [show pre.length + (post.length + 1) = pre.length + (1 + post.length) by omega, ← List.range'_append_1, ← List.range'_append_1]
    simp
  refine wpIn_region ?_
  rw [hr]
  refine runT_on (c := itc (J2 J Jx) sJ fz0 nt w1 ok1 ex1) pre (List.range pre.length) _ s _ (fun k hk => ?_) (by simp) (fun o ho => hds o (by rw [hl]; simp [ho])) h φ a w hR ?_
  · rw [List.getElem?_range hk, Option.bind_some]
    exact (hget k).trans (by rw [hl]; exact List.getElem?_append_left hk)
  rintro rs t φ' a' w' ⟨h1, h2, h3, h4, h5⟩ hR'
  have hi : l.toArray[pre.length]? = some ⟨some dst, .call ⟨.value y, args, ats⟩, ty, ps, af, none⟩ := (hget _).trans (by rw [hl]; exact (List.getElem?_append_right (Nat.le_refl _)).trans (by rw [Nat.sub_self]; rfl))
  have hpo : ∀ k, k < post.length → (List.range' (pre.length + 1) post.length)[k]?.bind (l.toArray[·]?) = post[k]? := fun k hk => by
    rw [List.getElem?_range' (by omega), Option.bind_some]
    refine (hget _).trans ?_
    rw [hl]
    refine (List.getElem?_append_right (by omega)).trans ?_
    rw [show pre.length + 1 + 1 * k - pre.length = k + 1 by omega]
    rfl
  have hdst : dst < nt := (hds ⟨some dst, .call ⟨.value y, args, ats⟩, ty, ps, af, none⟩ (by rw [hl]; simp)).1 dst rfl
  rw [wpOpsIn_cons]
  unfold Go.wpOpIn
  simp only [hi]
  rw [if_pos (by simp [Region.wanted])]
  refine ⟨fun _ _ => trivial, ?_⟩
  have hy : a'.eval y = .func (.yield lN) #[] #[] := by
    have := hR'.ev y
    rw [h1] at this
    exact (rep_val (ok := okOf (itc (J2 J Jx) sJ fz0 nt w1 ok1 ex1) φ' t) (w := w')).1 this
  obtain ⟨K, ⟨hJ, hK1⟩, hK2, hK3, hK4⟩ := hR'.gh _ h3
  have hrep := yv_rep h2 hR' hK2
  obtain ⟨fn, tmps, asg, bd, hrun, hround⟩ := hY k K w' d (args.toList.map a'.eval) (fun _ => False) hx (J2.even.1 hJ) hK3 hrep (fun _ h => h.elim)
  have hargs : (args.toList.map a'.eval).toArray = args.map a'.eval := by apply Array.ext'; simp
  rw [hargs] at hrun
  rw [Oper.semAt_eq _ _ _ (fun c h => by cases h), run_callYield hy, hrun, Oper.uponIn_round]
  refine ⟨fun h => by simp [fz, Fence.wide] at h, ?_⟩
  refine RoundIn.mono hround ?_
  rintro e W' ⟨hs, K', k1, k2, k3, k4, k5, hc⟩
  have hkeep : ∀ b, b < w'.heap.size → (fz0 b ∨ ¬ K b) → (∀ nm, t.mem nm ≠ none → (φ' nm).1 ≠ b) → W'.heap[b]? = w'.heap[b]? := fun b hb hc hnn => k4 b hb hc fun hsh => by
    obtain ⟨nm, n, sz, cap, ty, cells, _, hm, e, _⟩ := yv_shows h2 hR' hsh
    exact hnn nm (by rw [hm]; simp) e
  have hmem : ∀ nm blk, t.mem nm = some blk → W'.heap[(φ' nm).1]? = w'.heap[(φ' nm).1]? ∨ BlkAt (fun _ => False) W' (φ' nm) blk := fun nm blk hn => by
    by_cases hsh : d.shows (args.toList.map a'.eval) (φ' nm).1
    · obtain ⟨nm2, n, sz, cap, ty, cells, hd2, hm, e, e2, hag⟩ := yv_shows h2 hR' hsh
      by_cases en : nm2 = nm
      · subst en
        rw [hm] at hn; cases hn
        refine .inr ?_
        have := k5 ty cells n sz _ cap hd2 hag
        rw [← e2] at this
        exact this
      · exact absurd e (hR'.inj nm2 nm (by rw [hm]; simp) (by rw [hn]; simp) en)
    · exact .inl (k4 _ (hR'.lt (by rw [hn]; simp)) (.inr (hK2 nm (by rw [hn]; simp))) hsh)
  have hKK : ∀ b, K' b → K b ∨ w'.heap.size ≤ b := fun b hb => (k2 b hb).imp (fun h => h) fun h => h.resolve_left fun h => h
  have hsw' : SameW w0 W' := (hsw.trans hR'.below.same).trans hs
  have fin : ∀ (m : Nat) (b : Bool), J2 J Jx m K' W' → RunT P l.toArray post ⟨upd (upd t.fr VG (.d (.val (.int .i64 (m : Int))))) dst (.d (.val (.bool b))), t.mem⟩ (fun _ u => Q .normal u) →
      wpOpsIn (fz none) 0 P l.toArray (fun e a w => ∃ t φ, Q e t ∧ RF (itF w0 (J2 J Jx) sJ fz0 nt) t φ a w) (List.range' (pre.length + 1) post.length) (a'.put (some dst) (.bool b)) W' := fun m b hj hrn => by
    obtain ⟨ok2, ex2, hR2⟩ := rebase hR' hK1 hK2 hs hKK k3 hkeep hmem hj
    have hR3 := hR2.put (dst := some dst) (r := .d (.val (.bool b))) (v := .bool b) (fun x hx => by cases hx; exact hdst) ((rep_val (ok := okOf (itc (J2 J Jx) sJ fz0 nt W' ok2 ex2) φ' ⟨upd t.fr VG (.d (.val (.int .i64 (m : Int)))), t.mem⟩) (w := W')).2 rfl)
    exact runT_wp (c := itc (J2 J Jx) sJ fz0 nt W' ok2 ex2) post _ _ _ hpo (by simp) (fun o ho => hds o (by rw [hl]; simp [ho])) hrn φ' _ W' hR3 fun rs u φ2 a2 w2 hq hR4 => ⟨u, φ2, hq, _, ⟨W', ok2, ex2, rfl, hsw'⟩, hR4⟩
  rcases hc with ⟨rfl, hj⟩ | ⟨rfl, hj⟩
  · exact fin _ true (J2.even.2 hj) h4
  · exact fin _ false (J2.odd.2 hj) h5⟩

/-- How an iterator may end. -/
def YRet (xs : List YA) (fin : Bool) : Exit → AS → Prop
  | .normal, t | .ret, t => (fin = true ∧ t.fr VG = cntV xs.length) ∨ ∃ k, t.fr VG = stpV k
  | _, _ => False
/-- The state at an iterator's entry. -/
@[reducible] def entryY (bs : List DV) (l : Nat) (caps : List DV) : AS := ⟨upd (entry (bs ++ .val (.func (.yield l) #[] #[]) :: caps)).fr VG (cntV 0), fun _ => none⟩

theorem ay_body {P : Program} {gf : FuncId} {fn : Func} {code : Code} {bs caps : List DV} {xs : List YA} {fin : Bool} (hf : P.funcs[gf]? = some fn) (hb : fn.body = some code) (hres : fn.results = #[])
    (hn : (Nat.ble (bs ++ DV.any :: caps).length fn.ntmps && Nat.ble fn.ntmps VG) = true) (h : ∀ w0 J sJ fz0 l, Itr P (itF w0 J sJ fz0 fn.ntmps) l xs fin → AWp P (itF w0 J sJ fz0 fn.ntmps) code (YRet xs fin) (entryY bs l caps)) : AY P gf bs caps xs fin := by
  intro fz0 w vs us l J Jx hbs hcaps hnv hfz sJ sJx hY K0 hJ0 hK0
  have hr : DV.repL fz0 w (bs ++ .val (.func (.yield l) #[] #[]) :: caps) (vs ++ .func (.yield l) #[] #[] :: us) := repL_append hbs (repL_cons'.2 ⟨rep_val.2 rfl, hcaps⟩)
  have hnn : (Nat.ble (bs ++ DV.val (.func (.yield l) #[] #[]) :: caps).length fn.ntmps && Nat.ble fn.ntmps VG) = true := by
    rw [← hn]; simp
  refine callsIn_wide.1 (callsIn_of_wp_marks (F := Fence.wide) (n := 0) hf hb trivial ?_)
  have hR0 : R (itc (J2 J Jx) (sJ.J2 sJx) fz0 fn.ntmps w fz0 (fun _ => False)) (entry (bs ++ .val (.func (.yield l) #[] #[]) :: caps)) (fun _ => (0, 0)) { tmps := (vs ++ .func (.yield l) #[] #[] :: us).toArray ++ Array.replicate (fn.ntmps - (vs ++ .func (.yield l) #[] #[] :: us).toArray.size) undef, defers := [] } w :=
    entry_R rfl hnn (fun _ _ _ h => h) hr (fun _ => rfl)
  have hR : R (itc (J2 J Jx) (sJ.J2 sJx) fz0 fn.ntmps w fz0 (fun _ => False)) (entryY bs l caps) (fun _ => (0, 0)) { tmps := (vs ++ .func (.yield l) #[] #[] :: us).toArray ++ Array.replicate (fn.ntmps - (vs ++ .func (.yield l) #[] #[] :: us).toArray.size) undef, defers := [] } w := by
    refine ⟨hR0.below, hR0.defers, hR0.size, hR0.ntv, fun i hi => ?_, hR0.own, hR0.mem, hR0.inj, fun k hk => ?_⟩
    · show AV.rep _ _ w (upd (entry (bs ++ .val (.func (.yield l) #[] #[]) :: caps)).fr VG (cntV 0) i) _
      rw [upd_ne _ _ hi]
      exact hR0.fr i hi
    · have hk : upd (entry (bs ++ .val (.func (.yield l) #[] #[]) :: caps)).fr VG (cntV 0) VG = .d (.val (.int .i64 (k : Int))) := hk
      rw [upd_same] at hk
      have hk0 : k = 2 * 0 := by
        unfold cntV at hk
        injection hk with hk; injection hk with hk; injection hk with _ hk
        omega
      subst hk0
      exact ⟨K0, ⟨J2.even.2 hJ0, fun b hb => ⟨(hK0 b).1 hb, fun h => h, fun h => h⟩⟩, fun nm hn => absurd rfl hn, fun b hb => (hK0 b).1 hb, fun D hD => by cases hD⟩
  have hitr : Itr P (itF w (J2 J Jx) (sJ.J2 sJx) fz0 fn.ntmps) l xs fin := ⟨w, J, Jx, sJ.J2 sJx, fz0, fn.ntmps, rfl, hnv, hY⟩
  refine wpIn_mono ((h _ _ _ _ l hitr).run _ _ _ ⟨_, ⟨w, fz0, fun _ => False, rfl, SameW.refl w⟩, hR⟩) ?_
  rintro e a w' ⟨t, φ, hq, c', ⟨w1, ok1, ex1, rfl, hsw⟩, hR'⟩
  have fin' : ((fin = true ∧ t.fr VG = cntV xs.length) ∨ ∃ k, t.fr VG = stpV k) → LeavesInM Fence.wide 0 P fn a.tmps (fun e w' => (∃ v, e = .returned v) ∧ SameW w w' ∧ ∃ K', (∀ b, K' b → b < w'.heap.size) ∧ (J xs.length K' w' ∨ ∃ k, Jx k K' w')) a.defers .returning w' := by
    intro hq
    refine hR'.leaves fun w2 hR2 => ?_
    refine ⟨.tuple #[], ?_, ⟨_, rfl⟩, hsw.trans hR2.below.same, ?_⟩
    · unfold results
      rw [hres]
      simp
    · rcases hq with ⟨_, hq⟩ | ⟨k, hq⟩
      · obtain ⟨K, h1, _, h3, _⟩ := hR2.gh _ hq
        exact ⟨K, h3, .inl (J2.even.1 h1.1)⟩
      · obtain ⟨K, h1, _, h3, _⟩ := hR2.gh _ hq
        exact ⟨K, h3, .inr ⟨k, J2.odd.1 h1.1⟩⟩
  cases e with
  | normal => exact fin' hq
  | ret => exact fin' hq
  | exit id => exact hq.elim
  | goto l => exact hq.elim
  | panic ch => exact hq.elim
  | outgrown => exact hq.elim

/-- A method's value, and a function value that is bound to values. -/
theorem o_makeFuncB {P : Program} {s : AS} {dst : Option Tmp} {ty : TypeId} {ps : String} {af : Array Edge} {f : Fn} {bnd caps : Array Operand} {bvs dvs : List DV} (hb : viewD s bnd.toList = some bvs) (hv : viewD s caps.toList = some dvs) (gd : Option (Nat × Bool)) :
    Does P ⟨dst, .makeFunc f bnd caps, ty, ps, af, gd⟩ s [] (.put (.d (.fn f bvs dvs))) :=
  does_pure fun c s' φ a w hR hop => by
    have h0 := viewD_rep hR bnd.toList bvs (fun x hx => hop x (by simp [Op.operands]; exact .inl (Array.mem_toList_iff.1 hx))) hb
    have h1 := viewD_rep hR caps.toList dvs (fun x hx => hop x (by simp [Op.operands]; exact .inr (Array.mem_toList_iff.1 hx))) hv
    refine ⟨.func f (bnd.map a.eval) (caps.map a.eval), ?_, ?_⟩
    · simp only [execOp, Instr.makeFunc, Sem.run_bind, Sem.run_pure, Result.andThen_ok]
    · show DV.rep _ w _ _
      rw [DV.rep]
      exact ⟨bnd.toList.map a.eval, caps.toList.map a.eval, by congr 1 <;> (apply Array.ext'; simp), h0, h1⟩

/-- A call that returns a slice of its own, of values without addresses: it is a value from now on. -/
theorem o_callF1 {P : Program} {s : AS} {dst : Option Tmp} {ty : TypeId} {ps : String} {af : Array Edge} {f : FuncId} {args : Array Operand} {ats : Array TypeId} {dvs : List DV} {rd : List Nat} {e n sz : Nat} {cs : List DV} [he : EntI P f] (hv : viewL s args.toList = some (dvs, rd)) (hAC : ACo P f dvs e n sz cs) (hf : DV.flatL cs = true) (gd : Option (Nat × Bool)) :
    Does P ⟨dst, .call ⟨.value (.func f), args, ats⟩, ty, ps, af, gd⟩ s rd (.put (.d (.slice n cs))) :=
  ⟨fun c s' φ a w K Q hR hop hrd hd _ hK => by
    unfold Oper.wp
    rw [run_callFn he.eq]
    show Calls P f (args.map a.eval) w _
    have hops : ∀ x ∈ args.toList, ge (s'.ev x) (s.ev x) := fun x hx => hop x (by
      show x ∈ #[Operand.func f] ++ args
      exact Array.mem_append.2 (.inr (by simpa using hx)))
    have hargs : args.map a.eval = (args.toList.map a.eval).toArray := by rw [← Array.toList_map, Array.toArray_toList]
    rw [hargs]
    refine (hAC (fun _ => True) w _ (viewL_rep hR args.toList dvs rd hops hv hrd (fun _ _ _ => trivial) (fun _ _ => trivial))).mono ?_
    rintro _ w' ⟨g, cap, rfl, hg, h1, h2, ⟨vs, ex, h3, h4, h5, h6⟩, hb⟩
    refine hK _ _ _ ((hR.below' hb).put hd ?_)
    show DV.rep _ w' _ _
    rw [DV.rep]
    refine ⟨_, cap, rfl, h1, h2, fun _ => ⟨g, 0, vs, rfl, .inr ⟨.inl (Nat.le_trans hR.below.size hg), fun nm hnm => ?_⟩, (Array.getElem?_eq_some_iff.1 h3).1, ?_, h5, repL_flat _ _ hf h6⟩⟩
    · have := hR.lt hnm
      omega
    · have := cellsAt_of_heap h3 0 vs.length
      simpa using this⟩

/-- A loop, unrolled: the body runs, then the loop again. -/
structure AWpL (P : Program) (c : Fam) (body : Code) (Q : Exit → AS → Prop) (s : AS) : Prop where
  run : ∀ φ a w, RF c s φ a w → ∀ (b : Frame) (k : List Item) (cs : List Frame), b.roundOf = (fz c.rd).round → (fz c.rd).fn b.fn → (fz c.rd).room (cs.length + 1 + 0) → ∃ e a' w', (∃ t φ, Q e t ∧ RF c t φ a' w') ∧ ArrivesIn (Machine.fenced P (fz c.rd)) P (lone (b.atR a (.code body :: .inLoop body :: k)) cs w) b k cs e a' w'
theorem awp_loopU {P : Program} {c : Fam} {Q : Exit → AS → Prop} {s : AS} {body : Code} (h : AWpL P c body Q s) : AWp P c (.loop body) Q s := ⟨fun φ a w hR b k cs hro hb hr => by
  obtain ⟨e, a', w', hq, harr⟩ := h.run φ a w hR b k cs hro hb hr
  exact ⟨e, a', w', hq, .of_steps (.one (fenced_calm hb hr rfl) stepR_loop) harr⟩⟩
theorem awpL_step {P : Program} {c : Fam} {Q : Exit → AS → Prop} {s : AS} {body : Code} (h : AWp P c body (ASeq (AWpL P c body Q) Q) s) : AWpL P c body Q s := ⟨fun φ a w hR b k cs hro hb hr => by
  obtain ⟨e, a₁, w₁, ⟨t, φ₁, hq, hR₁⟩, harr⟩ := h.run φ a w hR b (.inLoop body :: k) cs hro hb hr
  cases e with
  | normal =>
    obtain ⟨e₂, a₂, w₂, hq₂, harr₂⟩ := AWpL.run hq φ₁ a₁ w₁ hR₁ b k cs hro hb hr
    exact ⟨e₂, a₂, w₂, hq₂, .of_steps (StepsIn.trans harr (.one (fenced_calm hb hr rfl) stepR_inLoop)) harr₂⟩
  | exit id => exact ⟨_, a₁, w₁, ⟨t, φ₁, hq, hR₁⟩, .pass (x := .inLoop body) rfl (fun _ _ => .inl (by simp)) harr⟩
  | goto l => exact ⟨_, a₁, w₁, ⟨t, φ₁, hq, hR₁⟩, .pass (x := .inLoop body) rfl (fun _ _ => .inl (by simp)) harr⟩
  | ret => exact ⟨_, a₁, w₁, ⟨t, φ₁, hq, hR₁⟩, .pass (x := .inLoop body) rfl (fun _ _ => .inl (by simp)) harr⟩
  | panic ch => exact ⟨_, a₁, w₁, ⟨t, φ₁, hq, hR₁⟩, .pass (x := .inLoop body) rfl (fun _ _ => .inl (by simp)) harr⟩
  | outgrown => exact ⟨_, a₁, w₁, ⟨t, φ₁, hq, hR₁⟩, .pass (x := .inLoop body) rfl (fun _ _ => .inl (by simp)) harr⟩⟩
section
variable {P : Program} {s : AS} {ty : TypeId} {ps : String} {af : Array Edge} {dst : Option Tmp} {t t' : TypeId} {x y : Operand}
/-- A store whose block is written out (its cells are given by their number: [_, _]). -/
theorem st8 {nm off n : Nat} {g : Bool} {blk : Blk} {v : DV} {cs : List DV} [h : TyI P t g n] {new : List DV} (hx : s.ev x = .ptr nm off := by exact rfl) (hm : s.mem nm = some blk := by exact rfl) (hy : s.ev y = .d v := by exact rfl) (hc : cellsOf v = some cs := by exact rfl) (hn : cs.length = n := by rfl) (hl : off + n ≤ blk.cells.length := by first | exact Nat.le_of_ble_eq_true rfl | (show _ ≤ _; simp; done)) (hnew : spl blk.cells off cs = new := by exact rfl) (gd : Option (Nat × Bool)) :
    Does P ⟨dst, .store t x y, ty, ps, af, gd⟩ s [nm] (.setBlk nm ⟨blk.ty, new⟩) := o_store hx hm hy hc hn hl hnew gd
end

end Go.Proofs.Ytiabcffcbhlbiaa
