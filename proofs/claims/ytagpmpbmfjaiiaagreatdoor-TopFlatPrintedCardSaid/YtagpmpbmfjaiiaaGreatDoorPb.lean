/- Walks of flat: helpers. -/
import Derived.Test.YtagpmpbmfjaiiaaGreatDoorPa
set_option linter.unusedVariables false
set_option linter.unusedSimpArgs false
namespace Go.Proofs.YtagpmpbmfjaiiaaGreatDoor
open Go.RowKit
set_option maxRecDepth 20000

section
variable {P : Program} {s : AS} {dst : Option Tmp} {ty : TypeId} {ps : String} {af : Array Edge} {t : TypeId} {x y : Operand} {k : IntKind}
theorem flat_drop {α : Type} (f : α → List DV) (sz : Nat) (hf : ∀ a, (f a).length = sz) (d : α) : ∀ (xs : List α) (j : Nat), j < xs.length → (xs.map f).flatten.drop (j * sz) = f (xs.getD j d) ++ ((xs.drop (j + 1)).map f).flatten
  | x :: xs, 0, _ => by simp
  | x :: xs, j + 1, h => by
    have h1 : (j + 1) * sz = (f x).length + j * sz := by rw [hf, Nat.add_mul]; omega
    rw [List.map_cons, List.flatten_cons, h1, List.drop_append, List.drop_eq_nil_of_le (by omega), List.nil_append, Nat.add_sub_cancel_left]
    have := flat_drop f sz hf d xs j (by simpa using h)
    rw [this]; rfl
theorem flat_len {α : Type} (f : α → List DV) (sz : Nat) (hf : ∀ a, (f a).length = sz) (xs : List α) : (xs.map f).flatten.length = xs.length * sz := by
  induction xs with
  | nil => simp
  | cons x xs ih => rw [List.map_cons, List.flatten_cons, List.length_append, ih, hf, List.length_cons, Nat.add_mul]; omega
/-- An index into a slice of items of several cells. -/
theorem o_indexF {α : Type} {n sz len : Nat} {xs : List α} {f : α → List DV} (d : α) {j : Nat} [ht : IdxI P t false n sz] (hf : ∀ a, (f a).length = sz) (hsz : 0 < sz) (hx : s.ev x = .d (.slice len (xs.map f).flatten)) (hy : s.ev y = .d (.val (.int k (j : Int)))) (hl : j < len) (hlen : len = xs.length) (gd : Option (Nat × Bool)) :
    Does P ⟨dst, .indexAddr t x y, ty, ps, af, gd⟩ s [] (.put (.d (.ref (f (xs.getD j d) ++ ((xs.drop (j + 1)).map f).flatten)))) := by
  have := does_indexS (gd := gd) (dst := dst) (ty := ty) (ps := ps) (af := af) ht.eq hx hy (by omega) (by omega) (fun h => by
    have h1 := flat_len f sz hf xs
    rw [h] at h1
    have : 0 < xs.length * sz := Nat.mul_pos (by omega) hsz
    simp at h1; omega)
  rw [Int.toNat_natCast, flat_drop f sz hf d xs j (by omega)] at this
  exact this
theorem spl_set (v : Int) : ∀ (xs : List Int) (j : Nat), j < xs.length → spl (xs.map I) j [I v] = (xs.set j v).map I
  | x :: xs, 0, _ => by simp [spl]
  | x :: xs, j + 1, h => by
    have := spl_set v xs j (by simpa using h)
    simp only [spl, List.length_singleton] at this ⊢
    rw [List.map_cons, List.take_succ_cons, List.drop_succ_cons, List.set_cons_succ, List.map_cons, ← this]
    rfl
theorem o_storeLI {nm off : Nat} {b : TypeId} {xs : List Int} {v : Int} [h : TyI P t false 1] (hx : s.ev x = .ptr nm off) (hm : s.mem nm = some ⟨b, xs.map I⟩) (hy : s.ev y = .d (I v)) (hj : off < xs.length) (gd : Option (Nat × Bool)) :
    Does P ⟨dst, .store t x y, ty, ps, af, gd⟩ s [nm] (.setBlk nm ⟨b, (xs.set off v).map I⟩) :=
  does_store hx hm hy rfl h.eq rfl (by show off + 1 ≤ (xs.map I).length; simp; omega) (spl_set v xs off hj)
end

theorem all1_A (K : Nat) (he : Enters Tryz.prog K) {fv : DV} {caps : List DV} (hv : FV K fv caps) (q : Bool) (x : Int) (hp : AC Tryz.prog K ([I x] ++ caps) (B q)) : AC Tryz.prog 108 [I x, .ref [fv]] (B (!q)) := by
  refine ac_body Tryz.func108 rfl (by kernel_rfl) fun w0 ok => ?_; show AWp _ (ctx0 w0 ok _) _ (ARet _ _ _) (entry _)
  (repeat' (first | (with_reducible first | intro hg | refine mv (by constructor) ?_) | ((with_reducible first | refine zR ?_ ?_ | refine zW mixed ?_ ?_); exact kr) | ((with_reducible apply zK); exact rfl; exact tf) | ((with_reducible apply zCD); exact rfl) | ((with_reducible apply zCN); exact rfl) | ((with_reducible apply zC); exact rfl) | ((with_reducible refine zX ?_ ?_); exact rfl) | ((with_reducible refine zE (And.intro ?_ ?_)); exact kr) | (with_reducible refine zE ?_) | ((with_reducible apply zP); exact dp) | ((with_reducible apply zN); exact dn) | ((with_reducible apply zA); exact da) | ((with_reducible apply zS); exact ds) | ((with_reducible apply zY); exact rfl; exact rfl; exact tf) | ((with_reducible apply zG); exact rfl; exact rfl; exact tf) | ((with_reducible apply zU); exact rfl; exact rfl) | ((with_reducible apply zD); exact rfl; exact rfl) | ((with_reducible apply zB); exact rfl; exact rfl)))
  (with_reducible apply r_put); focus exact o_callF he (by exact hv.v rfl) rfl hp (.inl rfl)
  (repeat' (first | (with_reducible first | intro hg | refine mv (by constructor) ?_) | ((with_reducible first | refine zR ?_ ?_ | refine zW mixed ?_ ?_); exact kr) | ((with_reducible apply zK); exact rfl; exact tf) | ((with_reducible apply zCD); exact rfl) | ((with_reducible apply zCN); exact rfl) | ((with_reducible apply zC); exact rfl) | ((with_reducible refine zX ?_ ?_); exact rfl) | ((with_reducible refine zE (And.intro ?_ ?_)); exact kr) | (with_reducible refine zE ?_) | ((with_reducible apply zP); exact dp) | ((with_reducible apply zN); exact dn) | ((with_reducible apply zA); exact da) | ((with_reducible apply zS); exact ds) | ((with_reducible apply zY); exact rfl; exact rfl; exact tf) | ((with_reducible apply zG); exact rfl; exact rfl; exact tf) | ((with_reducible apply zU); exact rfl; exact rfl) | ((with_reducible apply zD); exact rfl; exact rfl) | ((with_reducible apply zB); exact rfl; exact rfl)))
  ((with_reducible first | apply q_retR | apply q_retN); exact rl)
  rfl
theorem all_A (K : Nat) (he : Enters Tryz.prog K) {fv : DV} {caps : List DV} (hv : FV K fv caps) (p : Int → Bool) (xs : List Int) (e : Int) (hm : xs.length ≤ 140737488355328) (hp : ∀ x ∈ xs, AC Tryz.prog K ([I x] ++ caps) (B (p x))) :
    AC Tryz.prog 80 [isl xs, I e, fv] (I (unl (!(xs.any fun x => !p x)) e)) := by
  have hc := containsFunc_A 108 (EntI.eq (P := Tryz.prog) (f := 108)) (.fn (caps := [.ref [fv]])) (fun x => !p x) xs hm (fun x hx => all1_A K he hv (p x) x (hp x hx))
  refine ac_body Tryz.func80 rfl (by kernel_rfl) fun w0 ok => ?_; show AWp _ (ctx0 w0 ok _) _ (ARet _ _ _) (entry _)
  cases hv
  all_goals
    (iterate 6 (first | (with_reducible first | intro hg | refine mv (by constructor) ?_) | ((with_reducible first | refine zR ?_ ?_ | refine zW mixed ?_ ?_); exact kr) | ((with_reducible apply zK); exact rfl; exact tf) | ((with_reducible apply zCD); exact rfl) | ((with_reducible apply zCN); exact rfl) | ((with_reducible apply zC); exact rfl) | ((with_reducible refine zX ?_ ?_); exact rfl) | ((with_reducible refine zE (And.intro ?_ ?_)); exact kr) | (with_reducible refine zE ?_) | ((with_reducible apply zP); exact dp) | ((with_reducible apply zN); exact dn) | ((with_reducible apply zA); exact da) | ((with_reducible apply zS); exact ds) | ((with_reducible apply zY); exact rfl; exact rfl; exact tf) | ((with_reducible apply zG); exact rfl; exact rfl; exact tf) | ((with_reducible apply zU); exact rfl; exact rfl) | ((with_reducible apply zD); exact rfl; exact rfl) | ((with_reducible apply zB); exact rfl; exact rfl)))
    refine awp_freeze 5 rfl ?_
    (repeat' (first | (with_reducible first | intro hg | refine mv (by constructor) ?_) | ((with_reducible first | refine zR ?_ ?_ | refine zW mixed ?_ ?_); exact kr) | ((with_reducible apply zK); exact rfl; exact tf) | ((with_reducible apply zCD); exact rfl) | ((with_reducible apply zCN); exact rfl) | ((with_reducible apply zC); exact rfl) | ((with_reducible refine zX ?_ ?_); exact rfl) | ((with_reducible refine zE (And.intro ?_ ?_)); exact kr) | (with_reducible refine zE ?_) | ((with_reducible apply zP); (first | exact dp | exact oc rfl (hc) | exact oc rfl (unless_A _ _))) | ((with_reducible apply zN); exact dn) | ((with_reducible apply zA); exact da) | ((with_reducible apply zS); exact ds) | ((with_reducible apply zY); exact rfl; exact rfl; exact tf) | ((with_reducible apply zG); exact rfl; exact rfl; exact tf) | ((with_reducible apply zU); exact rfl; exact rfl) | ((with_reducible apply zD); exact rfl; exact rfl) | ((with_reducible apply zB); exact rfl; exact rfl)))
    ((with_reducible first | apply q_retR | apply q_retN); exact rl)
    rfl

theorem sized_A (m : Int) : AC Tryz.prog 82 [I m] (.fn (.func 109) [] [.ref [I m]]) := by
  refine ac_body Tryz.func82 rfl (by kernel_rfl) fun w0 ok => ?_; show AWp _ (ctx0 w0 ok _) _ (ARet _ _ _) (entry _)
  (iterate 6 (first | (with_reducible first | intro hg | refine mv (by constructor) ?_) | ((with_reducible first | refine zR ?_ ?_ | refine zW mixed ?_ ?_); exact kr) | ((with_reducible apply zK); exact rfl; exact tf) | ((with_reducible apply zCD); exact rfl) | ((with_reducible apply zCN); exact rfl) | ((with_reducible apply zC); exact rfl) | ((with_reducible refine zX ?_ ?_); exact rfl) | ((with_reducible refine zE (And.intro ?_ ?_)); exact kr) | (with_reducible refine zE ?_) | ((with_reducible apply zP); exact dp) | ((with_reducible apply zN); exact dn) | ((with_reducible apply zA); exact da) | ((with_reducible apply zS); exact ds) | ((with_reducible apply zY); exact rfl; exact rfl; exact tf) | ((with_reducible apply zG); exact rfl; exact rfl; exact tf) | ((with_reducible apply zU); exact rfl; exact rfl) | ((with_reducible apply zD); exact rfl; exact rfl) | ((with_reducible apply zB); exact rfl; exact rfl)))
  refine awp_freeze 1 rfl ?_
  (repeat' (first | (with_reducible first | intro hg | refine mv (by constructor) ?_) | ((with_reducible first | refine zR ?_ ?_ | refine zW mixed ?_ ?_); exact kr) | ((with_reducible apply zK); exact rfl; exact tf) | ((with_reducible apply zCD); exact rfl) | ((with_reducible apply zCN); exact rfl) | ((with_reducible apply zC); exact rfl) | ((with_reducible refine zX ?_ ?_); exact rfl) | ((with_reducible refine zE (And.intro ?_ ?_)); exact kr) | (with_reducible refine zE ?_) | ((with_reducible apply zP); exact dp) | ((with_reducible apply zN); exact dn) | ((with_reducible apply zA); exact da) | ((with_reducible apply zS); exact ds) | ((with_reducible apply zY); exact rfl; exact rfl; exact tf) | ((with_reducible apply zG); exact rfl; exact rfl; exact tf) | ((with_reducible apply zU); exact rfl; exact rfl) | ((with_reducible apply zD); exact rfl; exact rfl) | ((with_reducible apply zB); exact rfl; exact rfl)))
  ((with_reducible first | apply q_retR | apply q_retN); exact rl)
  rfl
theorem sized1_A (m n : Int) (h : Sm m) : AC Tryz.prog 109 ([I n] ++ [.ref [I m]]) (B (inR n (-m) m)) := by
  refine ac_body Tryz.func109 rfl (by kernel_rfl) fun w0 ok => ?_; show AWp _ (ctx0 w0 ok _) _ (ARet _ _ _) (entry _)
  (repeat' (first | (with_reducible first | intro hg | refine mv (by constructor) ?_) | ((with_reducible first | refine zR ?_ ?_ | refine zW mixed ?_ ?_); exact kr) | ((with_reducible apply zK); exact rfl; exact tf) | ((with_reducible apply zCD); exact rfl) | ((with_reducible apply zCN); exact rfl) | ((with_reducible apply zC); exact rfl) | ((with_reducible refine zX ?_ ?_); exact rfl) | ((with_reducible refine zE (And.intro ?_ ?_)); exact kr) | (with_reducible refine zE ?_) | ((with_reducible apply zP); (first | exact dp | exact oc rfl (small_A _ _ h))) | ((with_reducible apply zN); exact dn) | ((with_reducible apply zA); exact da) | ((with_reducible apply zS); exact ds) | ((with_reducible apply zY); exact rfl; exact rfl; exact tf) | ((with_reducible apply zG); exact rfl; exact rfl; exact tf) | ((with_reducible apply zU); exact rfl; exact rfl) | ((with_reducible apply zD); exact rfl; exact rfl) | ((with_reducible apply zB); exact rfl; exact rfl)))
  ((with_reducible first | apply q_retR | apply q_retN); exact rl)
  rfl
theorem allSized_A (xs : List Int) (e m : Int) (h : Sm m) (hm : xs.length ≤ 140737488355328) : AC Tryz.prog 80 [isl xs, I e, .fn (.func 109) [] [.ref [I m]]] (I (unl (!(xs.any fun x => !inR x (-m) m)) e)) :=
  all_A 109 (EntI.eq (P := Tryz.prog) (f := 109)) .fn _ xs e hm fun x _ => sized1_A m x h
theorem size_A (n : Int) (hn : Sm n) : AC Tryz.prog 83 [I n] (I n.natAbs) := by
  obtain ⟨hn1, hn2⟩ := hn
  refine ac_body Tryz.func83 rfl (by kernel_rfl) fun w0 ok => ?_; show AWp _ (ctx0 w0 ok _) _ (ARet _ _ _) (entry _)
  (repeat' (first | (with_reducible first | intro hg | refine mv (by constructor) ?_) | ((with_reducible first | refine zR ?_ ?_ | refine zW mixed ?_ ?_); exact kr) | ((with_reducible apply zK); exact rfl; exact tf) | ((with_reducible apply zCD); exact rfl) | ((with_reducible apply zCN); exact rfl) | ((with_reducible apply zC); exact rfl) | ((with_reducible refine zX ?_ ?_); exact rfl) | ((with_reducible refine zE (And.intro ?_ ?_)); exact kr) | (with_reducible refine zE ?_) | ((with_reducible apply zP); exact dp) | ((with_reducible apply zN); exact dn) | ((with_reducible apply zA); exact da) | ((with_reducible apply zS); exact ds) | ((with_reducible apply zY); exact rfl; exact rfl; exact tf) | ((with_reducible apply zG); exact rfl; exact rfl; exact tf) | ((with_reducible apply zU); exact rfl; exact rfl) | ((with_reducible apply zD); exact rfl; exact rfl) | ((with_reducible apply zB); exact rfl; exact rfl)))
  ((with_reducible first | apply q_retR | apply q_retN); exact rl)
  exact rt_int (by omega)
theorem divisor_A (a b : Int) (ha : Sm a) (hb : Sm b) : AC Tryz.prog 104 [I a, I b] (I (Int.gcd a b)) := by
  refine ac_body Tryz.func104 rfl (by kernel_rfl) fun w0 ok => ?_; show AWp _ (ctx0 w0 ok _) _ (ARet _ _ _) (entry _)
  (repeat' (first | (with_reducible first | intro hg | refine mv (by constructor) ?_) | ((with_reducible first | refine zR ?_ ?_ | refine zW mixed ?_ ?_); exact kr) | ((with_reducible apply zK); exact rfl; exact tf) | ((with_reducible apply zCD); exact rfl) | ((with_reducible apply zCN); exact rfl) | ((with_reducible apply zC); exact rfl) | ((with_reducible refine zX ?_ ?_); exact rfl) | ((with_reducible refine zE (And.intro ?_ ?_)); exact kr) | (with_reducible refine zE ?_) | ((with_reducible apply zP); exact dp) | ((with_reducible apply zN); exact dn) | ((with_reducible apply zA); exact da) | ((with_reducible apply zS); exact ds) | ((with_reducible apply zY); exact rfl; exact rfl; exact tf) | ((with_reducible apply zG); exact rfl; exact rfl; exact tf) | ((with_reducible apply zU); exact rfl; exact rfl) | ((with_reducible apply zD); exact rfl; exact rfl) | ((with_reducible apply zB); exact rfl; exact rfl)))
  refine awp_loopL (α := Int × Int) (fun k => [(0, .d (I k.1)), (1, .d (I k.2))]) (fun _ => []) (fun k => Sm k.1 ∧ Sm k.2 ∧ Int.gcd k.1 k.2 = Int.gcd a b) (fun k => k.2.natAbs) (a, b) ⟨ha, hb, rfl⟩ ⟨rfl, rfl, trivial⟩ trivial fun ⟨u, v⟩ ⟨⟨hu1, hu2⟩, ⟨hv1, hv2⟩, hd⟩ => ?_
  simp only at hu1 hu2 hv1 hv2 hd
  by_cases hz : v = 0
  · subst hz
    (repeat' (first | (with_reducible first | intro hg | refine mv (by constructor) ?_) | ((with_reducible first | refine zR ?_ ?_ | refine zW mixed ?_ ?_); exact kr) | ((with_reducible apply zK); exact rfl; exact tf) | ((with_reducible apply zCD); exact rfl) | ((with_reducible apply zCN); exact rfl) | ((with_reducible apply zC); exact rfl) | ((with_reducible refine zX ?_ ?_); exact rfl) | ((with_reducible refine zE (And.intro ?_ ?_)); exact kr) | (with_reducible refine zE ?_) | ((with_reducible apply zP); exact dp) | ((with_reducible apply zN); exact dn) | ((with_reducible apply zA); exact da) | ((with_reducible apply zS); exact ds) | ((with_reducible apply zY); exact rfl; exact rfl; exact tf) | ((with_reducible apply zG); exact rfl; exact rfl; exact tf) | ((with_reducible apply zU); exact rfl; exact rfl) | ((with_reducible apply zD); exact rfl; exact rfl) | ((with_reducible apply zB); exact rfl; exact rfl)))
    ((with_reducible first | apply q_retR | apply q_retN); exact rl)
    exact rt_int (by rw [← hd, Int.gcd_zero_right]; omega)
  · (repeat' (first | (with_reducible first | intro hg | refine mv (by constructor) ?_) | ((with_reducible first | refine zR ?_ ?_ | refine zW mixed ?_ ?_); exact kr) | ((with_reducible apply zK); exact rfl; exact tf) | ((with_reducible apply zCD); exact rfl) | ((with_reducible apply zCN); exact rfl) | ((with_reducible apply zC); exact rfl) | ((with_reducible refine zX ?_ ?_); exact rfl) | ((with_reducible refine zE (And.intro ?_ ?_)); exact kr) | (with_reducible refine zE ?_) | ((with_reducible apply zP); exact dp) | ((with_reducible apply zN); exact dn) | ((with_reducible apply zA); exact da) | ((with_reducible apply zS); exact ds) | ((with_reducible apply zY); exact rfl; exact rfl; exact tf) | ((with_reducible apply zG); exact rfl; exact rfl; exact tf) | ((with_reducible apply zU); exact rfl; exact rfl) | ((with_reducible apply zD); exact rfl; exact rfl) | ((with_reducible apply zB); exact rfl; exact rfl)))
    have := tmod_lt u v hz
    exact ⟨(v, u.tmod v), ⟨⟨hv1, hv2⟩, ⟨by simp only; omega, by simp only; omega⟩, by rw [gcd_step]; exact hd⟩, this, ⟨rfl, rfl, trivial⟩, trivial⟩
theorem lowest_A (a b : Int) (ha : Sm a) (hb : 0 < b) (hb2 : b ≤ 9223372036854775807) : AC Tryz.prog 68 [I a, I b] (F2 (low a b)) := by
  have hg : 0 < (Int.gcd a b : Int) := by
    have := Int.gcd_pos_of_ne_zero_right a (b := b) (by omega)
    omega
  obtain ⟨ha1, ha2⟩ := id ha
  refine ac_body Tryz.func68 rfl (by kernel_rfl) fun w0 ok => ?_; show AWp _ (ctx0 w0 ok _) _ (ARet _ _ _) (entry _)
  (repeat' (first | (with_reducible first | intro hg | refine mv (by constructor) ?_) | ((with_reducible first | refine zR ?_ ?_ | refine zW mixed ?_ ?_); exact kr) | ((with_reducible apply zK); exact rfl; exact tf) | ((with_reducible apply zCD); exact rfl) | ((with_reducible apply zCN); exact rfl) | ((with_reducible apply zC); exact rfl) | ((with_reducible refine zX ?_ ?_); exact rfl) | ((with_reducible refine zE (And.intro ?_ ?_)); exact kr) | (with_reducible refine zE ?_) | ((with_reducible apply zP); (first | exact dp | exact oc rfl (divisor_A _ _ ha ⟨by omega, by omega⟩))) | ((with_reducible apply zN); exact dn) | ((with_reducible apply zA); exact da) | ((with_reducible apply zS); exact ds) | ((with_reducible apply zY); exact rfl; exact rfl; exact tf) | ((with_reducible apply zG); exact rfl; exact rfl; exact tf) | ((with_reducible apply zU); exact rfl; exact rfl) | ((with_reducible apply zD); exact rfl; exact rfl) | ((with_reducible apply zB); exact rfl; exact rfl)))
  ((with_reducible first | apply q_retR | apply q_retN); exact rl)
  rfl
/-- The error of a profile. -/
def prE (p : List Int) : Int := fst0 [unl (decide (3 ≤ (p.length : Int)) && decide ((p.length : Int) % 2 = 1)) 10, unl (decide ((p.length : Int) ≤ 9)) 8, unl (!(p.any fun n => !inR n 1 100000)) 2]
theorem chkP1_A (n : Int) : AC Tryz.prog 100 ([I n] ++ []) (B (inR n 1 100000)) := by
  refine ac_body Tryz.func100 rfl (by kernel_rfl) fun w0 ok => ?_; show AWp _ (ctx0 w0 ok _) _ (ARet _ _ _) (entry _)
  (repeat' (first | (with_reducible first | intro hg | refine mv (by constructor) ?_) | ((with_reducible first | refine zR ?_ ?_ | refine zW mixed ?_ ?_); exact kr) | ((with_reducible apply zK); exact rfl; exact tf) | ((with_reducible apply zCD); exact rfl) | ((with_reducible apply zCN); exact rfl) | ((with_reducible apply zC); exact rfl) | ((with_reducible refine zX ?_ ?_); exact rfl) | ((with_reducible refine zE (And.intro ?_ ?_)); exact kr) | (with_reducible refine zE ?_) | ((with_reducible apply zP); (first | exact dp | exact oc rfl (within_A _ _ _))) | ((with_reducible apply zN); exact dn) | ((with_reducible apply zA); exact da) | ((with_reducible apply zS); exact ds) | ((with_reducible apply zY); exact rfl; exact rfl; exact tf) | ((with_reducible apply zG); exact rfl; exact rfl; exact tf) | ((with_reducible apply zU); exact rfl; exact rfl) | ((with_reducible apply zD); exact rfl; exact rfl) | ((with_reducible apply zB); exact rfl; exact rfl)))
  ((with_reducible first | apply q_retR | apply q_retN); exact rl)
  rfl
theorem checkProfile_A (p : List Int) (hm : p.length ≤ 140737488355328) : AC Tryz.prog 58 [isl p] (I (prE p)) := by
  have hal := all_A 100 (EntI.eq (P := Tryz.prog) (f := 100)) .val _ p 2 hm (fun x _ => chkP1_A x)
  refine ac_body Tryz.func58 rfl (by kernel_rfl) fun w0 ok => ?_; show AWp _ (ctx0 w0 ok _) _ (ARet _ _ _) (entry _)
  (repeat' (first | (with_reducible first | intro hg | refine mv (by constructor) ?_) | ((with_reducible first | refine zR ?_ ?_ | refine zW mixed ?_ ?_); exact kr) | ((with_reducible apply zK); exact rfl; exact tf) | ((with_reducible apply zCD); exact rfl) | ((with_reducible apply zCN); exact rfl) | ((with_reducible apply zC); exact rfl) | ((with_reducible refine zX ?_ ?_); exact rfl) | ((with_reducible refine zE (And.intro ?_ ?_)); exact kr) | (with_reducible refine zE ?_) | ((with_reducible apply zP); (first | exact dp | exact oc rfl (hal) | exact oc rfl (unless_A _ _) | exact oc rfl (first3_A _ _ _))) | ((with_reducible apply zN); exact dn) | ((with_reducible apply zA); exact da) | ((with_reducible apply zS); exact ds) | ((with_reducible apply zY); exact rfl; exact rfl; exact tf) | ((with_reducible apply zG); exact rfl; exact rfl; exact tf) | ((with_reducible apply zU); exact rfl; exact rfl) | ((with_reducible apply zD); exact rfl; exact rfl) | ((with_reducible apply zB); exact rfl; exact rfl)))
  all_goals
    ((with_reducible first | apply q_retR | apply q_retN); exact rl)
    refine rt_int ?_
    unfold prE
    first | (rw [decide_eq_true hg]; rfl) | (rw [decide_eq_false hg]; rfl)

theorem fst0_cons {x : Int} {l : List Int} (h : fst0 (x :: l) = 0) : x = 0 ∧ fst0 l = 0 := by
  by_cases hx : x = 0
  · subst hx; exact ⟨rfl, h⟩
  · rw [fst0_ne hx] at h; exact absurd h hx
theorem unl_ok {b : Bool} {n : Int} (hn : n ≠ 0) (h : unl b n = 0) : b = true := by
  cases b
  · exact absurd h hn
  · rfl
theorem all_of_any {xs : List Int} {p : Int → Bool} (h : (!(xs.any fun x => !p x)) = true) : ∀ x ∈ xs, p x = true := by
  intro x hx
  simp at h
  exact h x hx
theorem inR_iff {n lo hi : Int} : inR n lo hi = true ↔ lo ≤ n ∧ n ≤ hi := by simp [inR]
theorem prE_ok {p : List Int} (h : prE p = 0) : 3 ≤ p.length ∧ p.length % 2 = 1 ∧ p.length ≤ 9 ∧ ∀ x ∈ p, 1 ≤ x ∧ x ≤ 100000 := by
  obtain ⟨h1, h⟩ := fst0_cons h
  obtain ⟨h2, h⟩ := fst0_cons h
  obtain ⟨h3, _⟩ := fst0_cons h
  have h1 := unl_ok (by decide) h1
  have h2 := unl_ok (by decide) h2
  have h3 := all_of_any (unl_ok (by decide) h3)
  simp only [Bool.and_eq_true, decide_eq_true_eq] at h1 h2
  exact ⟨by omega, by omega, by omega, fun x hx => inR_iff.1 (h3 x hx)⟩
theorem nth_mem {xs : List Int} {k : Nat} (h : k < xs.length) : nth xs k ∈ xs := by
  unfold nth; rw [List.getD_eq_getElem?_getD, List.getElem?_eq_getElem h]; exact List.getElem_mem h
/-- The crown. -/
def crownP (p : List Int) : Int × Int := low (2 * nth p (p.length / 2) - nth p 0 - nth p (p.length - 1)) 2
theorem crownOf_err (p : List Int) (hm : p.length ≤ 140737488355328) (he : prE p ≠ 0) : AC Tryz.prog 35 [isl p] (.tuple [F2 (0, 0), I (prE p)]) := by
  refine ac_body Tryz.func35 rfl (by kernel_rfl) fun w0 ok => ?_; show AWp _ (ctx0 w0 ok _) _ (ARet _ _ _) (entry _)
  (repeat' (first | (with_reducible first | intro hg | refine mv (by constructor) ?_) | ((with_reducible first | refine zR ?_ ?_ | refine zW mixed ?_ ?_); exact kr) | ((with_reducible apply zK); exact rfl; exact tf) | ((with_reducible apply zCD); exact rfl) | ((with_reducible apply zCN); exact rfl) | ((with_reducible apply zC); exact rfl) | ((with_reducible refine zX ?_ ?_); exact rfl) | ((with_reducible refine zE (And.intro ?_ ?_)); exact kr) | (with_reducible refine zE ?_) | ((with_reducible apply zP); (first | exact dp | exact oc rfl (checkProfile_A _ hm))) | ((with_reducible apply zN); exact dn) | ((with_reducible apply zA); exact da) | ((with_reducible apply zS); exact ds) | ((with_reducible apply zY); exact rfl; exact rfl; exact tf) | ((with_reducible apply zG); exact rfl; exact rfl; exact tf) | ((with_reducible apply zU); exact rfl; exact rfl) | ((with_reducible apply zD); exact rfl; exact rfl) | ((with_reducible apply zB); exact rfl; exact rfl)))
  ((with_reducible first | apply q_retR | apply q_retN); exact rl)
  rfl
theorem crownOf_ok (p : List Int) (he : prE p = 0) : AC Tryz.prog 35 [isl p] (.tuple [F2 (crownP p), I 0]) := by
  obtain ⟨h1, h2, h3, h4⟩ := prE_ok he
  have n0 := h4 _ (nth_mem (xs := p) (k := 0) (by omega))
  have n1 := h4 _ (nth_mem (xs := p) (k := p.length - 1) (by omega))
  have n2 := h4 _ (nth_mem (xs := p) (k := p.length / 2) (by omega))
  have hc := checkProfile_A p (by omega)
  rw [he] at hc
  have e1 : ((p.length : Int) / 2).toNat = p.length / 2 := by omega
  have e2 : ((p.length : Int) - 1).toNat = p.length - 1 := by omega
  rw [← e2] at n1
  rw [← e1] at n2
  refine ac_body Tryz.func35 rfl (by kernel_rfl) fun w0 ok => ?_; show AWp _ (ctx0 w0 ok _) _ (ARet _ _ _) (entry _)
  (repeat' (first | (with_reducible first | intro hg | refine mv (by constructor) ?_) | ((with_reducible first | refine zR ?_ ?_ | refine zW mixed ?_ ?_); exact kr) | ((with_reducible apply zK); exact rfl; exact tf) | ((with_reducible apply zCD); exact rfl) | ((with_reducible apply zCN); exact rfl) | ((with_reducible apply zC); exact rfl) | ((with_reducible refine zX ?_ ?_); exact rfl) | ((with_reducible refine zE (And.intro ?_ ?_)); exact kr) | (with_reducible refine zE ?_) | ((with_reducible apply zP); (first | exact o_indexI (j := 0) rfl rfl (by omega) (by omega) | exact dp | exact oc rfl (hc) | exact oc rfl (lowest_A _ _ ⟨by omega, by omega⟩ (by decide) (by decide)))) | ((with_reducible apply zN); exact dn) | ((with_reducible apply zA); exact da) | ((with_reducible apply zS); exact ds) | ((with_reducible apply zY); exact rfl; exact rfl; exact tf) | ((with_reducible apply zG); exact rfl; exact rfl; exact tf) | ((with_reducible apply zU); exact rfl; exact rfl) | ((with_reducible apply zD); exact rfl; exact rfl) | ((with_reducible apply zB); exact rfl; exact rfl)))
  ((with_reducible first | apply q_retR | apply q_retN); exact rl)
  unfold crownP
  rw [e1, e2]
  rfl
theorem wedgeOf_err (p : List Int) (hm : p.length ≤ 140737488355328) (he : prE p ≠ 0) : AC Tryz.prog 36 [isl p] (.tuple [I 0, I (prE p)]) := by
  refine ac_body Tryz.func36 rfl (by kernel_rfl) fun w0 ok => ?_; show AWp _ (ctx0 w0 ok _) _ (ARet _ _ _) (entry _)
  (repeat' (first | (with_reducible first | intro hg | refine mv (by constructor) ?_) | ((with_reducible first | refine zR ?_ ?_ | refine zW mixed ?_ ?_); exact kr) | ((with_reducible apply zK); exact rfl; exact tf) | ((with_reducible apply zCD); exact rfl) | ((with_reducible apply zCN); exact rfl) | ((with_reducible apply zC); exact rfl) | ((with_reducible refine zX ?_ ?_); exact rfl) | ((with_reducible refine zE (And.intro ?_ ?_)); exact kr) | (with_reducible refine zE ?_) | ((with_reducible apply zP); (first | exact dp | exact oc rfl (checkProfile_A _ hm))) | ((with_reducible apply zN); exact dn) | ((with_reducible apply zA); exact da) | ((with_reducible apply zS); exact ds) | ((with_reducible apply zY); exact rfl; exact rfl; exact tf) | ((with_reducible apply zG); exact rfl; exact rfl; exact tf) | ((with_reducible apply zU); exact rfl; exact rfl) | ((with_reducible apply zD); exact rfl; exact rfl) | ((with_reducible apply zB); exact rfl; exact rfl)))
  ((with_reducible first | apply q_retR | apply q_retN); exact rl)
  rfl
theorem wedgeOf_ok (p : List Int) (he : prE p = 0) : AC Tryz.prog 36 [isl p] (.tuple [I (nth p 0 - nth p (p.length - 1)), I 0]) := by
  obtain ⟨h1, h2, h3, h4⟩ := prE_ok he
  have n0 := h4 _ (nth_mem (xs := p) (k := 0) (by omega))
  have n1 := h4 _ (nth_mem (xs := p) (k := p.length - 1) (by omega))
  have hc := checkProfile_A p (by omega)
  rw [he] at hc
  have e2 : ((p.length : Int) - 1).toNat = p.length - 1 := by omega
  rw [← e2] at n1
  refine ac_body Tryz.func36 rfl (by kernel_rfl) fun w0 ok => ?_; show AWp _ (ctx0 w0 ok _) _ (ARet _ _ _) (entry _)
  (repeat' (first | (with_reducible first | intro hg | refine mv (by constructor) ?_) | ((with_reducible first | refine zR ?_ ?_ | refine zW mixed ?_ ?_); exact kr) | ((with_reducible apply zK); exact rfl; exact tf) | ((with_reducible apply zCD); exact rfl) | ((with_reducible apply zCN); exact rfl) | ((with_reducible apply zC); exact rfl) | ((with_reducible refine zX ?_ ?_); exact rfl) | ((with_reducible refine zE (And.intro ?_ ?_)); exact kr) | (with_reducible refine zE ?_) | ((with_reducible apply zP); (first | exact o_indexI (j := 0) rfl rfl (by omega) (by omega) | exact dp | exact oc rfl (hc))) | ((with_reducible apply zN); exact dn) | ((with_reducible apply zA); exact da) | ((with_reducible apply zS); exact ds) | ((with_reducible apply zY); exact rfl; exact rfl; exact tf) | ((with_reducible apply zG); exact rfl; exact rfl; exact tf) | ((with_reducible apply zU); exact rfl; exact rfl) | ((with_reducible apply zD); exact rfl; exact rfl) | ((with_reducible apply zB); exact rfl; exact rfl)))
  ((with_reducible first | apply q_retR | apply q_retN); exact rl)
  rw [e2]
  rfl

end Go.Proofs.YtagpmpbmfjaiiaaGreatDoor
