/- TopRollLinear: helpers. -/
import Derived.Test.YtemihhkbieplmaaIq
import Derived.Test.YtemihhkbieplmaaW6
import Derived.Test.YtemihhkbieplmaaBw
set_option linter.unusedVariables false
set_option linter.unusedSimpArgs false
namespace Go.Proofs.Ytemihhkbieplmaa
open Go.RowKit
set_option maxRecDepth 20000
set_option maxHeartbeats 8000000

section
variable {P : Program} {s : AS} {ty : TypeId} {ps : String} {af : Array Edge} {dst : Option Tmp} {t t' : TypeId} {x y : Operand}
/-- Two aggregates that are the same. -/
theorem o_eqlS {n : Nat} {cs : List DV} {xs : List Int} [h : EqlI P t n] (hx : s.ev x = .d (.agg cs)) (hy : s.ev y = .d (.agg cs)) (hc : intsV cs = some xs) (hlx : xs.length = n) (gd : Option (Nat × Bool)) : Does P ⟨dst, .binOp .eql t x y t', ty, ps, af, gd⟩ s [] (.put (.d (B true))) := by
  have h1 := o_eqlA (P := P) (t := t) (dst := dst) (ty := ty) (ps := ps) (af := af) (t' := t') hx hy hc hc hlx hlx gd
  rwa [decide_eq_true rfl] at h1
theorem o_neqS {n : Nat} {cs : List DV} {xs : List Int} [h : EqlI P t n] (hx : s.ev x = .d (.agg cs)) (hy : s.ev y = .d (.agg cs)) (hc : intsV cs = some xs) (hlx : xs.length = n) (gd : Option (Nat × Bool)) : Does P ⟨dst, .binOp .neq t x y t', ty, ps, af, gd⟩ s [] (.put (.d (B false))) := by
  have h1 := o_neqA (P := P) (t := t) (dst := dst) (ty := ty) (ps := ps) (af := af) (t' := t') hx hy hc hc hlx hlx gd
  rwa [decide_eq_false (by simp)] at h1
end
theorem gadd_A (a b c d : Int) (h1 : a.natAbs ≤ 1000000000000) (h2 : b.natAbs ≤ 1000000000000) (h3 : c.natAbs ≤ 1000000000000) (h4 : d.natAbs ≤ 1000000000000) : AC Try.prog 81 [gV a b, gV c d] (gV (a + c) (b + d)) := by
  refine ac_body Try.func81 rfl (by kernel_rfl) fun w0 ok => ?_; show AWp _ (ctx0 w0 ok _) _ (ARet _ _ _) (entry _)
  (repeat' (first | (with_reducible first | intro hg | refine awp_seq ?_ | refine q_seq ?_ | refine q_blk ?_ | refine awp_block ?_ | refine awp_skip ?_ | refine awp_ret ?_ | refine awp_exit ?_ | refine q_seqE ?_ | refine q_seqR ?_ | refine q_blkR ?_ | refine q_blkE ?_) | ((with_reducible refine awp_region ?_ ?_); (focus exact kr)) | ((with_reducible refine awp_region_any mixed ?_ ?_); (focus exact kr)) | ((with_reducible apply awp_condT); (focus exact rfl); (focus exact tt)) | ((with_reducible apply awp_condF); (focus exact rfl); (focus exact ff)) | ((with_reducible apply awp_condD); (focus exact rfl)) | ((with_reducible apply awp_condN); (focus exact rfl)) | ((with_reducible apply awp_cond); (focus exact rfl)) | ((with_reducible refine q_blkX ?_ ?_); (focus exact rfl)) | ((with_reducible refine r_nil (And.intro ?_ ?_)); (focus exact kr)) | (with_reducible refine r_nil ?_) | ((with_reducible apply r_put); (focus exact dp)) | ((with_reducible apply r_new); (focus exact dn)) | ((with_reducible apply r_app); (focus exact da)) | ((with_reducible apply r_set); (focus exact ds)) | ((with_reducible apply r_putY); (focus exact rfl); (focus exact rfl); (focus exact tf); (focus exact dp)) | ((with_reducible apply r_newY); (focus exact rfl); (focus exact rfl); (focus exact tf); (focus exact dn)) | ((with_reducible apply r_noT); (focus exact rfl); (focus exact rfl); (focus exact ff)) | ((with_reducible apply r_noF); (focus exact rfl); (focus exact rfl); (focus exact tt)) | ((with_reducible apply r_noU); (focus exact rfl); (focus exact rfl)) | ((with_reducible apply r_splitD); (focus exact rfl); (focus exact rfl)) | ((with_reducible apply r_split); (focus exact rfl); (focus exact rfl))))
  ((with_reducible first | apply q_retR | apply q_retN); (focus exact rl))
  rfl
theorem rec_good {xs : List Int} (hB : Bnd 1000000 xs) (h1 : 0 < xs.length) (h2 : xs.length ≤ 240) : recErr xs = 0 := by
  have h3 : xs.any (fun n => !inR n (-1000000) 1000000) = false := by
    rw [List.any_eq_false]
    intro x hx
    rw [inR_true.2 (hB x hx)]; decide
  unfold recErr
  rw [decide_eq_false (by omega), decide_eq_false (by omega), h3]; rfl
theorem rollShown_A : AC Try.prog 80 [] (B true) := by
  refine ac_body Try.func80 rfl (by kernel_rfl) fun w0 ok => ?_; show AWp _ (ctx0 w0 ok _) _ (ARet _ _ _) (entry _)
  (repeat' (first | (with_reducible first | intro hg | refine awp_seq ?_ | refine q_seq ?_ | refine q_blk ?_ | refine awp_block ?_ | refine awp_skip ?_ | refine awp_ret ?_ | refine awp_exit ?_ | refine q_seqE ?_ | refine q_seqR ?_ | refine q_blkR ?_ | refine q_blkE ?_) | ((with_reducible refine awp_region ?_ ?_); (focus exact kr)) | ((with_reducible refine awp_region_any mixed ?_ ?_); (focus exact kr)) | ((with_reducible apply awp_condT); (focus exact rfl); (focus exact tt)) | ((with_reducible apply awp_condF); (focus exact rfl); (focus exact ff)) | ((with_reducible apply awp_condD); (focus exact rfl)) | ((with_reducible apply awp_condN); (focus exact rfl)) | ((with_reducible apply awp_cond); (focus exact rfl)) | ((with_reducible refine q_blkX ?_ ?_); (focus exact rfl)) | ((with_reducible refine r_nil (And.intro ?_ ?_)); (focus exact kr)) | (with_reducible refine r_nil ?_) | ((with_reducible apply r_put); (focus (first | exact o_buildSlD rfl (by decide) rfl | exact dp | exact oc rfl (drums_A) | exact oc rfl (record_A) | exact oc rfl (marks_A) | exact oc rfl (ex_fit) | exact oc rfl (ex_causes) | exact oc rfl (ints_A [1] [1] (by decide) (by decide))))) | ((with_reducible apply r_new); (focus exact dn)) | ((with_reducible apply r_app); (focus exact da)) | ((with_reducible apply r_set); (focus exact ds)) | ((with_reducible apply r_putY); (focus exact rfl); (focus exact rfl); (focus exact tf); (focus (first | exact o_buildSlD rfl (by decide) rfl | exact dp | exact oc rfl (drums_A) | exact oc rfl (record_A) | exact oc rfl (marks_A) | exact oc rfl (ex_fit) | exact oc rfl (ex_causes) | exact oc rfl (ints_A [1] [1] (by decide) (by decide))))) | ((with_reducible apply r_newY); (focus exact rfl); (focus exact rfl); (focus exact tf); (focus exact dn)) | ((with_reducible apply r_noT); (focus exact rfl); (focus exact rfl); (focus exact ff)) | ((with_reducible apply r_noF); (focus exact rfl); (focus exact rfl); (focus exact tt)) | ((with_reducible apply r_noU); (focus exact rfl); (focus exact rfl)) | ((with_reducible apply r_splitD); (focus exact rfl); (focus exact rfl)) | ((with_reducible apply r_split); (focus exact rfl); (focus exact rfl))))
  ((with_reducible first | apply q_retR | apply q_retN); (focus exact rl))
  rfl
/-- What a part of two steady amplitudes answers. -/
structure RatF (f g h : Int × Int) : Prop where
  f0 : AC Try.prog 82 [F2 f] (B true)
  g0 : AC Try.prog 82 [F2 g] (B true)
  f1 : AC Try.prog 85 [F2 f] (ratV (Rat.divInt f.1 f.2))
  g1 : AC Try.prog 85 [F2 g] (ratV (Rat.divInt g.1 g.2))
  h1 : AC Try.prog 85 [F2 h] (ratV (Rat.divInt h.1 h.2))
  add : AC Try.prog 84 [ratV (Rat.divInt f.1 f.2), ratV (Rat.divInt g.1 g.2)] (ratV (Rat.divInt h.1 h.2))
  cmp : AC Try.prog 83 [ratV (Rat.divInt h.1 h.2), ratV (Rat.divInt h.1 h.2)] (I 0)
theorem ratF {a b c n : Int} (hn : 0 < n) (hn2 : n ≤ 1000) (hc : c = a + b) (ha : a.natAbs ≤ 10000000000) (hb : b.natAbs ≤ 10000000000) : RatF (low a n) (low b n) (low c n) := by
  obtain ⟨a1, a2, a3, a4, a5⟩ := low_pos (n := a) hn
  obtain ⟨b1, b2, b3, b4, b5⟩ := low_pos (n := b) hn
  obtain ⟨c1, c2, c3, c4, c5⟩ := low_pos (n := c) hn
  have rS : ∀ {f : Int × Int}, 0 < f.2 → f.2 ≤ 1000 → f.1.natAbs ≤ 20000000000 → RatS 10000 (Rat.divInt f.1 f.2) := fun h1 h2 h3 => (ratS_divInt _ h1 (wlen_int ⟨by omega, by omega⟩) (wlen_int ⟨by omega, by omega⟩)).mono (by decide)
  have sa := rS (f := low a n) a1 (by omega) (by omega)
  have sb := rS (f := low b n) b1 (by omega) (by omega)
  have sc := rS (f := low c n) c1 (by omega) (by omega)
  have hadd := ratioAdd_A sa sb
  have e : Rat.divInt (low a n).1 (low a n).2 + Rat.divInt (low b n).1 (low b n).2 = Rat.divInt (low c n).1 (low c n).2 := by
    rw [a5, b5, c5, hc, divInt_add_same (by omega)]
  rw [e] at hadd
  exact ⟨isLowest_A _ a1 (by omega) (by omega) a4, isLowest_A _ b1 (by omega) (by omega) b4, ratioFrom_A _ ⟨by omega, by omega⟩ ⟨by omega, by omega⟩ (by omega), ratioFrom_A _ ⟨by omega, by omega⟩ ⟨by omega, by omega⟩ (by omega), ratioFrom_A _ ⟨by omega, by omega⟩ ⟨by omega, by omega⟩ (by omega), hadd, ratioCmp_same _ sc⟩
theorem both_bnd {xs ys : List Int} (hx : ∀ j, j < xs.length → (-1000 ≤ nth xs j ∧ nth xs j ≤ 1000) ∧ (-1000 ≤ nth ys j ∧ nth ys j ≤ 1000)) : Bnd 1000000 (bothL xs ys) := fun v hv => by
  obtain ⟨k, hk, rfl⟩ := List.mem_map.1 hv
  rw [List.mem_range] at hk
  obtain ⟨h1, h2⟩ := hx k hk
  show -1000000 ≤ nth xs k + nth ys k ∧ nth xs k + nth ys k ≤ 1000000
  omega
theorem dif_small {xs : List Int} {p o : Int} {d : Nat} (hB : Bnd 1000000 xs) (hl : xs.length ≤ 240) : (reOf p o (dif xs d)).natAbs ≤ 10000000000 ∧ (imOf p o (dif xs d)).natAbs ≤ 10000000000 := by
  have hb : Bnd 4000000 (dif xs d) := (dif_bnd hB).mono (by omega)
  have b (q : Int) := rsum_bnd (p := p) (o := o) (k0 := 0) (q := q) hb (by rw [dif_len]; omega)
  have b0 := b 0
  have b1 := b 1
  have b2 := b 2
  have b3 := b 3
  unfold reOf imOf
  omega
theorem re_small {xs : List Int} {p o : Int} (hB : Bnd 1000000 xs) (hl : xs.length ≤ 240) : (reOf p o xs).natAbs ≤ 10000000000 ∧ (imOf p o xs).natAbs ≤ 10000000000 := by
  have hb : Bnd 4000000 xs := hB.mono (by omega)
  have b (q : Int) := rsum_bnd (p := p) (o := o) (k0 := 0) (q := q) hb (by omega)
  have b0 := b 0
  have b1 := b 1
  have b2 := b 2
  have b3 := b 3
  unfold reOf imOf
  omega

/-- The text behind the first n statements. -/
def dropSeq : Nat → Code → Code
  | 0, x => x
  | n + 1, .seq _ y => dropSeq n y
  | _, x => x

end Go.Proofs.Ytemihhkbieplmaa
