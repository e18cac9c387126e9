/- Functions that are handed a yield: contracts. Nothing of the program. -/
import Derived.Test.YtemihhkbieplmaaMj
set_option linter.unusedVariables false
set_option linter.unusedSimpArgs false
namespace Go.Proofs.Ytemihhkbieplmaa
open Go.RowKit

theorem valX_rep (ok : Nat → Prop) (w : World) (v : Value) : DV.rep ok w (.val v) v := rep_val.2 rfl
/-- What a yield does. -/
def YSpec (P : Program) (l : Nat) (fz0 : Nat → Prop) (xs : List YA) (J Jx : Ghost) : Prop :=
  ∀ k K W d args (okA : Nat → Prop), xs[k]? = some d → J k K W → (∀ b, K b → b < W.heap.size) → d.rep K okA W args → (∀ b, okA b → b < W.heap.size ∧ (fz0 b ∨ ¬ K b)) →
    YieldAt Fence.wide 0 P l args.toArray W fun e W' => SameW W W' ∧ ∃ K', (∀ b, K b → K' b) ∧ (∀ b, K' b → K b ∨ okA b ∨ W.heap.size ≤ b) ∧ (∀ b, K' b → b < W'.heap.size) ∧ (∀ b, b < W.heap.size → (fz0 b ∨ ¬ K b) → ¬ d.shows args b → W'.heap[b]? = W.heap[b]?) ∧
      (∀ ty cells n sz g cap, d = .sl ty cells n sz → args = [.slice (some ⟨g, 0, none⟩) n cap] → BlkAt (fun _ => False) W' (g, cap * sz) ⟨ty, cells⟩) ∧
      ((e = .returned (.bool true) ∧ J (k + 1) K' W') ∨ (e = .returned (.bool false) ∧ Jx (k + 1) K' W'))

/-- The function f, which is handed a yield behind the arguments ds1 and ahead of ds2, yields the values xs, till it is told to stop; rv tells what it returns. The blocks okS of its arguments may be kept by whom it yields to. -/
def GY (P : Program) (f : FuncId) (ds1 ds2 : List DV) (xs : List YA) (rv : Bool → Ending → Prop) : Prop :=
  ∀ (fz0 okS : Nat → Prop) (w : World) (vs us : List Value) (l : Nat) (J Jx : Ghost) (K0 : Nat → Prop), DV.repL okS w ds1 vs → DV.repL okS w ds2 us → (∀ b, okS b → b < w.heap.size ∧ (fz0 b ∨ ¬ K0 b)) → Stable J → Stable Jx → YSpec P l fz0 xs J Jx →
    J 0 K0 w → (∀ b, K0 b → b < w.heap.size) →
    Calls P f (vs ++ .func (.yield l) #[] #[] :: us).toArray w fun e w' => SameW w w' ∧ ∃ K', (∀ b, K' b → K0 b ∨ okS b ∨ w.heap.size ≤ b) ∧ (∀ b, K' b → b < w'.heap.size) ∧ (∀ b, b < w.heap.size → (fz0 b ∨ ¬ K0 b) → ¬ okS b → w'.heap[b]? = w.heap[b]?) ∧
      ((rv true e ∧ J xs.length K' w') ∨ (rv false e ∧ ∃ k, Jx k K' w'))

theorem AY.of_gy {P : Program} {gf : FuncId} {bs caps : List DV} {xs : List YA} (h : GY P gf bs caps xs fun _ e => ∃ v, e = .returned v) : AY P gf bs caps xs true := by
  intro fz0 w vs us l J Jx hbs hcaps _ hfz sJ sJx hY K0 hJ0 hK0
  refine (h fz0 fz0 w vs us l J Jx K0 hbs hcaps (fun b hb => ⟨hfz b hb, .inl hb⟩) sJ sJx hY hJ0 fun b hb => (hK0 b).1 hb).mono ?_
  rintro e w' ⟨hs, K', _, h2, _, ⟨h3, h4⟩ | ⟨h3, h4⟩⟩
  · exact ⟨h3, hs, K', h2, .inl h4⟩
  · exact ⟨h3, hs, K', h2, .inr h4⟩

structure GIn (w : World) (fz0 okS K0 : Nat → Prop) (w1 : World) (ok1 ex1 : Nat → Prop) : Prop where
  same : SameW w w1
  exn : ∀ b, ex1 b → w.heap.size ≤ b
  okn : ∀ b, ok1 b → okS b ∨ w.heap.size ≤ b
  old : ∀ b, b < w.heap.size → (fz0 b ∨ ¬ K0 b) → ¬ okS b → w1.heap[b]? = w.heap[b]?
def gJ (w : World) (okS K0 : Nat → Prop) (J : Ghost) : Ghost := fun k K W => J k K W ∧ ∀ b, K b → K0 b ∨ okS b ∨ w.heap.size ≤ b
theorem Stable.gJ {w : World} {okS K0 : Nat → Prop} {J : Ghost} (h : Stable J) : Stable (gJ w okS K0 J) := fun k K w w' hj hs hb => ⟨h k K w w' hj.1 hs hb, hj.2⟩
@[reducible] def itG (w : World) (fz0 okS K0 : Nat → Prop) (J : Ghost) (sJ : Stable J) (nt : Nat) : Fam := ⟨fun c => ∃ w1 ok1 ex1, c = itc J sJ fz0 nt w1 ok1 ex1 ∧ GIn w fz0 okS K0 w1 ok1 ex1, nt, none, by rintro c ⟨_, _, _, rfl, _⟩; exact ⟨rfl, rfl⟩⟩
/-- What a walk may do with the yield that it was handed. -/
structure ItrG (P : Program) (c : Fam) (l : Nat) (xs : List YA) : Prop where
  run : ∃ w fz0 okS K0 J Jx sJ nt, c = itG w fz0 okS K0 (J2 (gJ w okS K0 J) (gJ w okS K0 Jx)) sJ nt ∧ Stable J ∧ Stable Jx ∧ YSpec P l fz0 xs J Jx

section
variable {J : Ghost} {sJ : Stable J} {fz0 : Nat → Prop} {nt : Nat} {w1 W W' : World} {ok1 ex1 : Nat → Prop} {t : AS} {φ : Nat → Nat × Nat} {a : Act}
theorem un_named (h : R (itc J sJ fz0 nt w1 ok1 ex1) t φ a W) {b : Nat} (hb : okOf (itc J sJ fz0 nt w1 ok1 ex1) φ t b) {nm : Nat} (hn : t.mem nm ≠ none) : (φ nm).1 ≠ b := fun e => by
  rcases hb with ⟨h1, _, h3⟩ | ⟨_, h2⟩
  · obtain ⟨blk, hblk⟩ := Option.ne_none_iff_exists'.1 hn
    rcases h.own nm blk hblk with h4 | h4
    · rw [e] at h4; exact absurd h1 (Nat.not_lt.2 h4)
    · rw [e] at h4; exact h3 h4
  · exact h2 nm hn e
theorem fz_of {K : Nat → Prop} (hK1 : ∀ b, K b → b < w1.heap.size ∧ ¬ ex1 b ∧ (ok1 b → fz0 b)) {b : Nat} (hb : okOf (itc J sJ fz0 nt w1 ok1 ex1) φ t b) : fz0 b ∨ ¬ K b := by
  by_cases hk : K b
  · obtain ⟨k1, k2, k3⟩ := hK1 b hk
    rcases hb with ⟨_, h2, _⟩ | ⟨h1 | h1, _⟩
    · exact .inl (k3 h2)
    · exact absurd k1 (Nat.not_lt.2 h1)
    · exact absurd h1 k2
  · exact .inr hk
/-- The context is set up anew: the blocks S may be spoken of by others from now on. -/
theorem rebaseG (h : R (itc J sJ fz0 nt w1 ok1 ex1) t φ a W) {K K' S : Nat → Prop} {t' : AS}
    (hfr : ∀ i, i ≠ VG → (t'.fr i).rep (fun b => okOf (itc J sJ fz0 nt w1 ok1 ex1) φ t b ∧ ¬ S b) φ W (slotAt (itc J sJ fz0 nt w1 ok1 ex1) a φ i))
    (hmm : ∀ nm blk, t'.mem nm = some blk → t.mem nm = some blk ∧ ¬ S (φ nm).1 ∧ BlkAt (fun b => okOf (itc J sJ fz0 nt w1 ok1 ex1) φ t b ∧ ¬ S b) W (φ nm) blk)
    (hK1 : ∀ b, K b → b < w1.heap.size ∧ ¬ ex1 b ∧ (ok1 b → fz0 b)) (hK2 : ∀ nm, t'.mem nm ≠ none → ¬ K (φ nm).1) (hs : SameW W W') (hKK : ∀ b, K' b → K b ∨ S b ∨ W.heap.size ≤ b) (hKlt : ∀ b, K' b → b < W'.heap.size)
    (hkeep : ∀ b, b < W.heap.size → (fz0 b ∨ ¬ K b) → ¬ S b → W'.heap[b]? = W.heap[b]?) {m : Nat} (hJ : J m K' W') :
    R (itc J sJ fz0 nt W' (fun b => (okOf (itc J sJ fz0 nt w1 ok1 ex1) φ t b ∧ ¬ S b) ∧ b < W.heap.size) (named t' φ)) ⟨upd t'.fr VG (.d (.val (.int .i64 (m : Int)))), t'.mem⟩ φ a W' := by
  have hd0 : a.defers = [] := by
    obtain ⟨Ds, h1, _, h3⟩ := h.defers
    cases Ds with
    | nil => exact h1
    | cons D Ds => have := (h3 D (by simp)).1.1; cases this
  have htn : ∀ nm, t'.mem nm ≠ none → t.mem nm ≠ none := fun nm hn => by
    obtain ⟨blk, hblk⟩ := Option.ne_none_iff_exists'.1 hn
    rw [(hmm nm blk hblk).1]; simp
  obtain ⟨c2, hc2⟩ : ∃ c2, c2 = itc J sJ fz0 nt W' (fun b => (okOf (itc J sJ fz0 nt w1 ok1 ex1) φ t b ∧ ¬ S b) ∧ b < W.heap.size) (named t' φ) := ⟨_, rfl⟩
  have hk : Keeps (fun b => okOf (itc J sJ fz0 nt w1 ok1 ex1) φ t b ∧ ¬ S b) W (okOf c2 φ ⟨upd t'.fr VG (.d (.val (.int .i64 (m : Int)))), t'.mem⟩) W' := by
    refine ⟨fun b hb hlt => ?_, hs.size, fun b o u hok hlt hc => (World.cell?_of_block (a := ⟨b, o, none⟩) (hkeep b hlt (fz_of hK1 hok.1) hok.2)).trans hc⟩
    rw [hc2]
    exact .inl ⟨Nat.lt_of_lt_of_le hlt hs.size, ⟨hb, hlt⟩, fun ⟨nm, hn, e⟩ => un_named h hb.1 (htn nm hn) e⟩
  have e1 : c2.w0 = W' := by rw [hc2]
  have e2 : c2.ex = named t' φ := by rw [hc2]
  have e3 : c2.nt = nt := by rw [hc2]
  have e4 : c2.gv = fun _ => undef := by rw [hc2]
  rw [← hc2]
  refine ⟨by rw [e1]; exact BelowX.refl _ _, ⟨[], hd0, List.nodup_nil, fun D hD => by cases hD⟩, by rw [e3]; exact h.size, by rw [e3]; exact h.ntv, fun i hi => ?_, fun nm blk hn => .inr (by rw [e2]; exact ⟨nm, by rw [show t'.mem nm = some blk from hn]; simp, rfl⟩), fun nm blk hn => ?_, fun x y hx hy => h.inj x y (htn x hx) (htn y hy), fun k hk => ?_⟩
  · show (upd t'.fr VG _ i).rep _ φ W' _
    rw [upd_ne _ _ hi]
    have h1 := AV.rep_keeps hk (hfr i hi)
    have h2 : slotAt c2 a φ i = slotAt (itc J sJ fz0 nt w1 ok1 ex1) a φ i := by unfold slotAt; rw [e4]
    rw [h2]; exact h1
  · obtain ⟨h1, h2, h3⟩ := hmm nm blk hn
    exact h3.keeps hk (hkeep _ (h.lt (by rw [h1]; simp)) (.inr (hK2 nm (by rw [show t'.mem nm = some blk from hn]; simp))) h2)
  · have hk : upd t'.fr VG (.d (.val (.int .i64 (m : Int)))) VG = .d (.val (.int .i64 (k : Int))) := hk
    rw [upd_same] at hk
    have hkm : k = m := by
      injection hk with hk; injection hk with hk; injection hk with _ hk
      omega
    subst hkm
    have hnK : ∀ b, named t' φ b → ¬ K' b := fun b ⟨nm, hn, e⟩ hb => by
      obtain ⟨blk, hblk⟩ := Option.ne_none_iff_exists'.1 hn
      rcases hKK b hb with h1 | h1 | h1
      · exact hK2 nm hn (e ▸ h1)
      · exact (hmm nm blk hblk).2.1 (e ▸ h1)
      · have := h.lt (htn nm hn); omega
    refine ⟨K', ?_, fun nm hn hb => hnK _ ⟨nm, hn, rfl⟩ hb, hKlt, fun D hD => by rw [hd0] at hD; cases hD⟩
    rw [hc2]
    refine ⟨hJ, fun b hb => ⟨hKlt b hb, fun hn => hnK b hn hb, fun hok => ?_⟩⟩
    rcases hKK b hb with h1 | h1 | h1
    · exact (fz_of hK1 hok.1.1).resolve_right fun h2 => h2 h1
    · exact absurd h1 hok.1.2
    · exact absurd hok.2 (Nat.not_lt.2 h1)
theorem gin_step {w : World} {okS K0 : Nat → Prop} (hG : GIn w fz0 okS K0 w1 ok1 ex1) (h : R (itc J sJ fz0 nt w1 ok1 ex1) t φ a W) {K S E : Nat → Prop} {t' : AS} (htn : ∀ nm, t'.mem nm ≠ none → t.mem nm ≠ none)
    (hKn : ∀ b, K b → K0 b ∨ okS b ∨ w.heap.size ≤ b) (hs : SameW W W') (hE : ∀ b, E b → w.heap.size ≤ b) (hkeep : ∀ b, b < W.heap.size → (fz0 b ∨ ¬ K b) → ¬ E b → W'.heap[b]? = W.heap[b]?) :
    GIn w fz0 okS K0 W' (fun b => (okOf (itc J sJ fz0 nt w1 ok1 ex1) φ t b ∧ ¬ S b) ∧ b < W.heap.size) (named t' φ) := by
  have hmine : ∀ b, (itc J sJ fz0 nt w1 ok1 ex1).mine b → w.heap.size ≤ b := fun b hb => by
    rcases hb with hb | hb
    · exact Nat.le_trans hG.same.size hb
    · exact hG.exn b hb
  refine ⟨(hG.same.trans h.below.same).trans hs, fun b ⟨nm, hn, e⟩ => ?_, fun b hb => ?_, fun b hb h1 h2 => ?_⟩
  · obtain ⟨blk, hblk⟩ := Option.ne_none_iff_exists'.1 (htn nm hn)
    exact e ▸ hmine _ (h.own nm blk hblk)
  · rcases hb.1.1 with h3 | h3
    · exact hG.okn b h3.2.1
    · exact .inr (hmine b h3.1)
  · have hb1 : b < w1.heap.size := Nat.lt_of_lt_of_le hb hG.same.size
    have hbW : b < W.heap.size := Nat.lt_of_lt_of_le hb1 h.below.size
    have h3 : fz0 b ∨ ¬ K b := h1.imp id fun h1 hk => by
      rcases hKn b hk with h4 | h4 | h4
      · exact h1 h4
      · exact h2 h4
      · omega
    exact (hkeep b hbW h3 fun he => by have := hE b he; omega).trans ((h.below.block b hb1 fun he => by have := hG.exn b he; omega).trans (hG.old b hb h1 h2))
end
theorem slice_flat {c : Ctx} {s : AS} {φ : Nat → Nat × Nat} {a : Act} {w : World} (h : R c s φ a w) {nm : Nat} {blk : Blk} (hn : s.mem nm = some blk) (hf : DV.flatL blk.cells = true) {ok : Nat → Prop} (hok : ok (φ nm).1) {len sz : Nat} {v : Value} (hv : (AV.lsl nm 0 len sz).rep (okOf c φ s) φ w v) :
    (DV.slice len (blk.cells.take (len * sz))).rep ok w v := by
  obtain ⟨cap, rfl, h1, h2, h3⟩ := hv
  rw [DV.rep]
  refine ⟨_, cap, rfl, h1, h2, fun hne => ?_⟩
  obtain ⟨vs, ex, hh, hl, ho, hr⟩ := h.mem nm blk hn
  refine ⟨_, 0, vs.take (len * sz), rfl, hok, (Array.getElem?_eq_some_iff.1 hh).1, cellsAt_of_heap hh 0 _, fun u hu => ho u (List.mem_of_mem_take hu), ?_⟩
  exact repL_take (repL_flat _ _ hf hr) _

@[reducible] def anyS : AS := ⟨fun _ => .d .any, fun _ => none⟩

end Go.Proofs.Ytemihhkbieplmaa
