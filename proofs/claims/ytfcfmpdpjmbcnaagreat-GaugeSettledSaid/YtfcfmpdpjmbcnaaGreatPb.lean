/- Walks of gauge: helpers. -/
import Derived.Test.YtfcfmpdpjmbcnaaGreatPa
set_option linter.unusedVariables false
set_option linter.unusedSimpArgs false
namespace Go.Proofs.YtfcfmpdpjmbcnaaGreat
open Go.RowKit
set_option maxRecDepth 20000

section
variable {P : Program} {s : AS} {dst : Option Tmp} {ty : TypeId} {ps : String} {af : Array Edge} {t : TypeId} {x y : Operand} {k : IntKind}
theorem flat_drop {α : Type} (f : α → List DV) (sz : Nat) (hf : ∀ a, (f a).length = sz) (d : α) : ∀ (xs : List α) (j : Nat), j < xs.length → (xs.map f).flatten.drop (j * sz) = f (xs.getD j d) ++ ((xs.drop (j + 1)).map f).flatten
  | x :: xs, 0, _ => by simp
  | x :: xs, j + 1, h => by
    have h1 : (j + 1) * sz = (f x).length + j * sz := by rw [hf, Nat.add_mul]; omega
    rw [List.map_cons, List.flatten_cons, h1, List.drop_append, List.drop_eq_nil_of_le (by omega), List.nil_append, Nat.add_sub_cancel_left]
    have := flat_drop f sz hf d xs j (by simpa using h)
    rw [this]; rfl
theorem flat_len {α : Type} (f : α → List DV) (sz : Nat) (hf : ∀ a, (f a).length = sz) (xs : List α) : (xs.map f).flatten.length = xs.length * sz := by
  induction xs with
  | nil => simp
  | cons x xs ih => rw [List.map_cons, List.flatten_cons, List.length_append, ih, hf, List.length_cons, Nat.add_mul]; omega
/-- An index into a slice of items of several cells. -/
theorem o_indexF {α : Type} {n sz len : Nat} {xs : List α} {f : α → List DV} (d : α) {j : Nat} [ht : IdxI P t false n sz] (hf : ∀ a, (f a).length = sz) (hsz : 0 < sz) (hx : s.ev x = .d (.slice len (xs.map f).flatten)) (hy : s.ev y = .d (.val (.int k (j : Int)))) (hl : j < len) (hlen : len = xs.length) (gd : Option (Nat × Bool)) :
    Does P ⟨dst, .indexAddr t x y, ty, ps, af, gd⟩ s [] (.put (.d (.ref (f (xs.getD j d) ++ ((xs.drop (j + 1)).map f).flatten)))) := by
  have := does_indexS (gd := gd) (dst := dst) (ty := ty) (ps := ps) (af := af) ht.eq hx hy (by omega) (by omega) (fun h => by
    have h1 := flat_len f sz hf xs
    rw [h] at h1
    have : 0 < xs.length * sz := Nat.mul_pos (by omega) hsz
    simp at h1; omega)
  rw [Int.toNat_natCast, flat_drop f sz hf d xs j (by omega)] at this
  exact this
theorem spl_set (v : Int) : ∀ (xs : List Int) (j : Nat), j < xs.length → spl (xs.map I) j [I v] = (xs.set j v).map I
  | x :: xs, 0, _ => by simp [spl]
  | x :: xs, j + 1, h => by
    have := spl_set v xs j (by simpa using h)
    simp only [spl, List.length_singleton] at this ⊢
    rw [List.map_cons, List.take_succ_cons, List.drop_succ_cons, List.set_cons_succ, List.map_cons, ← this]
    rfl
theorem o_storeLI {nm off : Nat} {b : TypeId} {xs : List Int} {v : Int} [h : TyI P t false 1] (hx : s.ev x = .ptr nm off) (hm : s.mem nm = some ⟨b, xs.map I⟩) (hy : s.ev y = .d (I v)) (hj : off < xs.length) (gd : Option (Nat × Bool)) :
    Does P ⟨dst, .store t x y, ty, ps, af, gd⟩ s [nm] (.setBlk nm ⟨b, (xs.set off v).map I⟩) :=
  does_store hx hm hy rfl h.eq rfl (by show off + 1 ≤ (xs.map I).length; simp; omega) (spl_set v xs off hj)
end

theorem size_A (n : Int) (hn : Sm n) : AC Tryz.prog 65 [I n] (I n.natAbs) := by
  obtain ⟨hn1, hn2⟩ := hn
  refine ac_body Tryz.func65 rfl (by kernel_rfl) fun w0 ok => ?_; show AWp _ (ctx0 w0 ok _) _ (ARet _ _ _) (entry _)
  (repeat' (first | (with_reducible first | intro hg | refine mv (by constructor) ?_) | ((with_reducible first | refine zR ?_ ?_ | refine zW mixed ?_ ?_); exact kr) | ((with_reducible apply zK); exact rfl; exact tf) | ((with_reducible apply zCD); exact rfl) | ((with_reducible apply zCN); exact rfl) | ((with_reducible apply zC); exact rfl) | ((with_reducible refine zX ?_ ?_); exact rfl) | ((with_reducible refine zE (And.intro ?_ ?_)); exact kr) | (with_reducible refine zE ?_) | ((with_reducible apply zP); exact dp) | ((with_reducible apply zN); exact dn) | ((with_reducible apply zA); exact da) | ((with_reducible apply zS); exact ds) | ((with_reducible apply zY); exact rfl; exact rfl; exact tf) | ((with_reducible apply zG); exact rfl; exact rfl; exact tf) | ((with_reducible apply zU); exact rfl; exact rfl) | ((with_reducible apply zD); exact rfl; exact rfl) | ((with_reducible apply zB); exact rfl; exact rfl)))
  ((with_reducible first | apply q_retR | apply q_retN); exact rl)
  exact rt_int (by omega)
theorem divisor_A (a b : Int) (ha : Sm a) (hb : Sm b) : AC Tryz.prog 88 [I a, I b] (I (Int.gcd a b)) := by
  refine ac_body Tryz.func88 rfl (by kernel_rfl) fun w0 ok => ?_; show AWp _ (ctx0 w0 ok _) _ (ARet _ _ _) (entry _)
  (repeat' (first | (with_reducible first | intro hg | refine mv (by constructor) ?_) | ((with_reducible first | refine zR ?_ ?_ | refine zW mixed ?_ ?_); exact kr) | ((with_reducible apply zK); exact rfl; exact tf) | ((with_reducible apply zCD); exact rfl) | ((with_reducible apply zCN); exact rfl) | ((with_reducible apply zC); exact rfl) | ((with_reducible refine zX ?_ ?_); exact rfl) | ((with_reducible refine zE (And.intro ?_ ?_)); exact kr) | (with_reducible refine zE ?_) | ((with_reducible apply zP); exact dp) | ((with_reducible apply zN); exact dn) | ((with_reducible apply zA); exact da) | ((with_reducible apply zS); exact ds) | ((with_reducible apply zY); exact rfl; exact rfl; exact tf) | ((with_reducible apply zG); exact rfl; exact rfl; exact tf) | ((with_reducible apply zU); exact rfl; exact rfl) | ((with_reducible apply zD); exact rfl; exact rfl) | ((with_reducible apply zB); exact rfl; exact rfl)))
  refine awp_loopL (α := Int × Int) (fun k => [(0, .d (I k.1)), (1, .d (I k.2))]) (fun _ => []) (fun k => Sm k.1 ∧ Sm k.2 ∧ Int.gcd k.1 k.2 = Int.gcd a b) (fun k => k.2.natAbs) (a, b) ⟨ha, hb, rfl⟩ ⟨rfl, rfl, trivial⟩ trivial fun ⟨u, v⟩ ⟨⟨hu1, hu2⟩, ⟨hv1, hv2⟩, hd⟩ => ?_
  simp only at hu1 hu2 hv1 hv2 hd
  by_cases hz : v = 0
  · subst hz
    (repeat' (first | (with_reducible first | intro hg | refine mv (by constructor) ?_) | ((with_reducible first | refine zR ?_ ?_ | refine zW mixed ?_ ?_); exact kr) | ((with_reducible apply zK); exact rfl; exact tf) | ((with_reducible apply zCD); exact rfl) | ((with_reducible apply zCN); exact rfl) | ((with_reducible apply zC); exact rfl) | ((with_reducible refine zX ?_ ?_); exact rfl) | ((with_reducible refine zE (And.intro ?_ ?_)); exact kr) | (with_reducible refine zE ?_) | ((with_reducible apply zP); (first | exact dp | exact oc rfl (size_A _ ⟨hu1, hu2⟩))) | ((with_reducible apply zN); exact dn) | ((with_reducible apply zA); exact da) | ((with_reducible apply zS); exact ds) | ((with_reducible apply zY); exact rfl; exact rfl; exact tf) | ((with_reducible apply zG); exact rfl; exact rfl; exact tf) | ((with_reducible apply zU); exact rfl; exact rfl) | ((with_reducible apply zD); exact rfl; exact rfl) | ((with_reducible apply zB); exact rfl; exact rfl)))
    ((with_reducible first | apply q_retR | apply q_retN); exact rl)
    exact rt_int (by rw [← hd, Int.gcd_zero_right])
  · (repeat' (first | (with_reducible first | intro hg | refine mv (by constructor) ?_) | ((with_reducible first | refine zR ?_ ?_ | refine zW mixed ?_ ?_); exact kr) | ((with_reducible apply zK); exact rfl; exact tf) | ((with_reducible apply zCD); exact rfl) | ((with_reducible apply zCN); exact rfl) | ((with_reducible apply zC); exact rfl) | ((with_reducible refine zX ?_ ?_); exact rfl) | ((with_reducible refine zE (And.intro ?_ ?_)); exact kr) | (with_reducible refine zE ?_) | ((with_reducible apply zP); exact dp) | ((with_reducible apply zN); exact dn) | ((with_reducible apply zA); exact da) | ((with_reducible apply zS); exact ds) | ((with_reducible apply zY); exact rfl; exact rfl; exact tf) | ((with_reducible apply zG); exact rfl; exact rfl; exact tf) | ((with_reducible apply zU); exact rfl; exact rfl) | ((with_reducible apply zD); exact rfl; exact rfl) | ((with_reducible apply zB); exact rfl; exact rfl)))
    have := tmod_lt u v hz
    exact ⟨(v, u.tmod v), ⟨⟨hv1, hv2⟩, ⟨by simp only; omega, by simp only; omega⟩, by rw [gcd_step]; exact hd⟩, this, ⟨rfl, rfl, trivial⟩, trivial⟩
theorem lowest_A (a b : Int) (ha : Sm a) (hb : 0 < b) (hb2 : b ≤ 9223372036854775807) : AC Tryz.prog 67 [I a, I b] (F2 (low a b)) := by
  have hg : 0 < (Int.gcd a b : Int) := by
    have := Int.gcd_pos_of_ne_zero_right a (b := b) (by omega)
    omega
  obtain ⟨ha1, ha2⟩ := id ha
  refine ac_body Tryz.func67 rfl (by kernel_rfl) fun w0 ok => ?_; show AWp _ (ctx0 w0 ok _) _ (ARet _ _ _) (entry _)
  (repeat' (first | (with_reducible first | intro hg | refine mv (by constructor) ?_) | ((with_reducible first | refine zR ?_ ?_ | refine zW mixed ?_ ?_); exact kr) | ((with_reducible apply zK); exact rfl; exact tf) | ((with_reducible apply zCD); exact rfl) | ((with_reducible apply zCN); exact rfl) | ((with_reducible apply zC); exact rfl) | ((with_reducible refine zX ?_ ?_); exact rfl) | ((with_reducible refine zE (And.intro ?_ ?_)); exact kr) | (with_reducible refine zE ?_) | ((with_reducible apply zP); (first | exact dp | exact oc rfl (divisor_A _ _ ha ⟨by omega, by omega⟩))) | ((with_reducible apply zN); exact dn) | ((with_reducible apply zA); exact da) | ((with_reducible apply zS); exact ds) | ((with_reducible apply zY); exact rfl; exact rfl; exact tf) | ((with_reducible apply zG); exact rfl; exact rfl; exact tf) | ((with_reducible apply zU); exact rfl; exact rfl) | ((with_reducible apply zD); exact rfl; exact rfl) | ((with_reducible apply zB); exact rfl; exact rfl)))
  ((with_reducible first | apply q_retR | apply q_retN); exact rl)
  rfl
theorem fst0_cons {x : Int} {l : List Int} (h : fst0 (x :: l) = 0) : x = 0 ∧ fst0 l = 0 := by
  by_cases hx : x = 0
  · subst hx; exact ⟨rfl, h⟩
  · rw [fst0_ne hx] at h; exact absurd h hx
theorem unl_ok {b : Bool} {n : Int} (hn : n ≠ 0) (h : unl b n = 0) : b = true := by
  cases b
  · exact absurd h hn
  · rfl
theorem all_of_any {xs : List Int} {p : Int → Bool} (h : (!(xs.any fun x => !p x)) = true) : ∀ x ∈ xs, p x = true := by
  intro x hx
  simp at h
  exact h x hx
theorem nth_mem {xs : List Int} {k : Nat} (h : k < xs.length) : nth xs k ∈ xs := by
  unfold nth; rw [List.getD_eq_getElem?_getD, List.getElem?_eq_getElem h]; exact List.getElem_mem h
theorem mul_rng {x e : Int} (A B : Nat) (h1 : x.natAbs ≤ A) (h2 : e.natAbs ≤ B) : (x * e).natAbs ≤ A * B := by rw [Int.natAbs_mul]; exact Nat.mul_le_mul h1 h2
section
variable {P : Program} {s : AS} {ty : TypeId} {ps : String} {af : Array Edge} {dst : Option Tmp} {t t' : TypeId} {x y : Operand}
theorem o_neqS {n : Nat} {cs : List DV} {xs : List Int} [h : EqlI P t n] (hx : s.ev x = .d (.agg cs)) (hy : s.ev y = .d (.agg cs)) (hc : intsV cs = some xs) (hlx : xs.length = n) (gd : Option (Nat × Bool)) : Does P ⟨dst, .binOp .neq t x y t', ty, ps, af, gd⟩ s [] (.put (.d (B false))) := by
  have h1 := o_neqA (P := P) (t := t) (dst := dst) (ty := ty) (ps := ps) (af := af) (t' := t') hx hy hc hc hlx hlx gd
  rwa [decide_eq_false (by simp)] at h1
end

end Go.Proofs.YtfcfmpdpjmbcnaaGreat
