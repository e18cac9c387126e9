/- Walk: TopRollResidual. -/
import Derived.Test.YtocnbbjcfgfgdaaGreatDoorRv
import Derived.Test.YtocnbbjcfgfgdaaGreatDoorRt
import Derived.Test.YtocnbbjcfgfgdaaGreatDoorW6
set_option linter.unusedVariables false
set_option linter.unusedSimpArgs false
namespace Go.Proofs.YtocnbbjcfgfgdaaGreatDoor
open Go.RowKit
set_option maxRecDepth 20000
set_option maxHeartbeats 8000000

section
variable {P : Program} {s : AS} {ty : TypeId} {ps : String} {af : Array Edge} {dst : Option Tmp} {t t' : TypeId} {x y : Operand}
/-- Two aggregates that are the same. -/
theorem o_neqS {n : Nat} {cs : List DV} {xs : List Int} [h : EqlI P t n] (hx : s.ev x = .d (.agg cs)) (hy : s.ev y = .d (.agg cs)) (hc : intsV cs = some xs) (hlx : xs.length = n) (gd : Option (Nat × Bool)) : Does P ⟨dst, .binOp .neq t x y t', ty, ps, af, gd⟩ s [] (.put (.d (B false))) := by
  have h1 := o_neqA (P := P) (t := t) (dst := dst) (ty := ty) (ps := ps) (af := af) (t' := t') hx hy hc hc hlx hlx gd
  rwa [decide_eq_false (by simp)] at h1
theorem o_neqDs {n : List UInt8} {p o : Int} (hx : s.ev x = .d (dT n p o)) (hy : s.ev y = .d (dT n p o)) (gd : Option (Nat × Bool)) : Does Tryz.prog ⟨dst, .binOp .neq 23 x y t', ty, ps, af, gd⟩ s [] (.put (.d (B false))) := by
  have h1 := o_neqDr (dst := dst) (ty := ty) (ps := ps) (af := af) (t' := t') hx hy gd
  rwa [show (!(decide (n = n) && (decide (p = p) && decide (o = o)))) = false by simp] at h1
end
theorem rollShown_A : AC Tryz.prog 11 [] (B true) := by
  refine ac_body Tryz.func11 rfl (by kernel_rfl) fun w0 ok => ?_; show AWp _ (ctx0 w0 ok _) _ (ARet _ _ _) (entry _)
  (repeat' (first | (with_reducible first | intro hg | refine mv (by constructor) ?_) | ((with_reducible first | refine zR ?_ ?_ | refine zW mixed ?_ ?_); exact kr) | ((with_reducible apply zK); exact rfl; exact tf) | ((with_reducible apply zCD); exact rfl) | ((with_reducible apply zCN); exact rfl) | ((with_reducible apply zC); exact rfl) | ((with_reducible refine zX ?_ ?_); exact rfl) | ((with_reducible refine zE (And.intro ?_ ?_)); exact kr) | (with_reducible refine zE ?_) | ((with_reducible apply zP); (first | exact o_buildSlD rfl (by decide) rfl | exact dp | exact oc rfl (drums_A) | exact oc rfl (record_A) | exact oc rfl (marks_A) | exact oc rfl (ex_fit) | exact oc rfl (ex_causes) | exact oc rfl (ints_A [1] [1] (by decide) (by decide)))) | ((with_reducible apply zN); exact dn) | ((with_reducible apply zA); exact da) | ((with_reducible apply zS); exact ds) | ((with_reducible apply zY); exact rfl; exact rfl; exact tf) | ((with_reducible apply zG); exact rfl; exact rfl; exact tf) | ((with_reducible apply zU); exact rfl; exact rfl) | ((with_reducible apply zD); exact rfl; exact rfl) | ((with_reducible apply zB); exact rfl; exact rfl)))
  ((with_reducible first | apply q_retR | apply q_retN); exact rl)
  rfl
theorem gpart_A (re im : Int) (h1 : Sm re) (h2 : Sm im) : AC Tryz.prog 13 [gV re im] (I (max (re.natAbs : Int) im.natAbs)) := by
  refine ac_body Tryz.func13 rfl (by kernel_rfl) fun w0 ok => ?_; show AWp _ (ctx0 w0 ok _) _ (ARet _ _ _) (entry _)
  (repeat' (first | (with_reducible first | intro hg | refine mv (by constructor) ?_) | ((with_reducible first | refine zR ?_ ?_ | refine zW mixed ?_ ?_); exact kr) | ((with_reducible apply zK); exact rfl; exact tf) | ((with_reducible apply zCD); exact rfl) | ((with_reducible apply zCN); exact rfl) | ((with_reducible apply zC); exact rfl) | ((with_reducible refine zX ?_ ?_); exact rfl) | ((with_reducible refine zE (And.intro ?_ ?_)); exact kr) | (with_reducible refine zE ?_) | ((with_reducible apply zP); (first | exact dp | exact oc rfl (size_A _ h1) | exact oc rfl (size_A _ h2))) | ((with_reducible apply zN); exact dn) | ((with_reducible apply zA); exact da) | ((with_reducible apply zS); exact ds) | ((with_reducible apply zY); exact rfl; exact rfl; exact tf) | ((with_reducible apply zG); exact rfl; exact rfl; exact tf) | ((with_reducible apply zU); exact rfl; exact rfl) | ((with_reducible apply zD); exact rfl; exact rfl) | ((with_reducible apply zB); exact rfl; exact rfl)))
  ((with_reducible first | apply q_retR | apply q_retN); exact rl)
  rfl
theorem name_len {n : List UInt8} {p o : Int} (h : drumErr ⟨n.toArray⟩ p o = 0) : n.length ≤ 1000 := by
  obtain ⟨_, hn, _⟩ := drum_ok h
  unfold nameOk at hn
  rw [Bool.and_eq_true, T8_list, T8_size] at hn
  have := inR_true.1 hn.2
  omega
theorem fmt_prs {n : List UInt8} {p o : Int} (h : drumErr ⟨n.toArray⟩ p o = 0) (hp : I64 p) (ho : I64 o) :
    ∃ s, AC Tryz.prog 6 [dT n p o] (T8 s) ∧ AC Tryz.prog 7 [T8 s] (.tuple [dT n p o, I 0]) := by
  have h1 := name_len h
  have fl := fmtD_len (n := n) hp ho
  have h3 := parseDrum_A (fmtD n p o) (by omega)
  rw [prs_fmt h] at h3
  exact ⟨_, formatDrum_A n p o (by omega) hp ho, h3⟩
theorem waveOf_good {nm : ByteArray} {p o re im : Int} (h1 : drumErr nm p o = 0) (h2 : ampErr re im = 0) (hs : nm.size ≤ 140737488355328) (hp : I64 p) {N : Nat} {z : Int} (hz : z = N) (hN : 1 ≤ N ∧ N ≤ 240) :
    AC Tryz.prog 15 [drumV nm p o, gV re im, I z] (.tuple [isl (lst (fun k => wave p o re im k) N), I 0]) := by
  subst hz
  refine waveOf_ok nm p o re im N hs hp ?_
  unfold waveOfErr
  rw [h1, h2, inR_true.2 (by omega)]; rfl
/-- What the slower roll shows. -/
theorem steady_of {p o : Int} (hd : Drum p o) (h4 : p % 4 = 0) (re im h : Int) (N : Nat) (hN : p + p / 2 ≤ N) (g f : Nat → Int) (hg : ∀ k, k + (p / 2).toNat < N → g (k + (p / 2).toNat) = g k) (hf : ∀ k, k < N → f k = h + wave p o re im (k : Nat) + g k) :
    low (reOf p o (dif (lst f N) (p / 2).toNat)) (cnt (dif (lst f N) (p / 2).toNat).length p : Nat) = (re, 1) ∧ low (imOf p o (dif (lst f N) (p / 2).toNat)) (cnt (dif (lst f N) (p / 2).toNat).length p : Nat) = (im, 1) := by
  obtain ⟨m, O, hm, _, rfl, rfl, _⟩ := drum_nat hd h4
  have e : (((4 * m : Nat) : Int) / 2).toNat = 2 * m := by omega
  rw [e] at hg ⊢
  exact steady_wave hm re im h N (by omega) g hg f hf
theorem nearest_of {p o : Int} (hd : Drum p o) (h4 : p % 4 = 0) (re im h : Int) (N : Nat) (hN : p ≤ N) (f : Nat → Int) (hf : ∀ k, k < N → f k = h + wave p o re im (k : Nat)) :
    nearRe p o (lst f N) 0 = re ∧ nearIm p o (lst f N) 0 = im := by
  obtain ⟨m, O, hm, _, rfl, rfl, _⟩ := drum_nat hd h4
  exact near_wave hm re im h N (by omega) f hf

/-- The numbers of the law. -/
structure Mill (n0 n1 : List UInt8) (p0 o0 p1 o1 re0 im0 re1 im1 h T : Int) : Prop where
  e0 : drumErr ⟨n0.toArray⟩ p0 o0 = 0
  e1 : drumErr ⟨n1.toArray⟩ p1 o1 = 0
  two : p0 = 2 * p1
  a0 : ampErr re0 im0 = 0
  a1 : ampErr re1 im1 = 0
  g0 : max (re0.natAbs : Int) im0.natAbs ≤ 1000
  g1 : max (re1.natAbs : Int) im1.natAbs ≤ 1000
  hh : 0 ≤ h ∧ h ≤ 100000
  tt : 2 ≤ T ∧ T ≤ 3
abbrev millL (n0 n1 : List UInt8) (p0 o0 p1 o1 re0 im0 re1 im1 h T : Int) : List DV := [T8 n0, I p0, I o0, T8 n1, I p1, I o1, I re0, I im0, I re1, I im1, I h, I T]
def sumF (v w : List Int) (h : Int) : Nat → Int := fun k => h + nth v k + nth w k

end Go.Proofs.YtocnbbjcfgfgdaaGreatDoor
