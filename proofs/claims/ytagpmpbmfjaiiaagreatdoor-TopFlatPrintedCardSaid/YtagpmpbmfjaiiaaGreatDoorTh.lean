/- Contours: walks. -/
import Derived.Test.YtagpmpbmfjaiiaaGreatDoorTb
import Derived.Test.YtagpmpbmfjaiiaaGreatDoorPu
set_option linter.unusedVariables false
set_option linter.unusedSimpArgs false
namespace Go.Proofs.YtagpmpbmfjaiiaaGreatDoor
open Go.RowKit
set_option maxRecDepth 20000
set_option maxHeartbeats 8000000

section
variable {P : Program} {s : AS} {dst : Option Tmp} {ty : TypeId} {ps : String} {af : Array Edge} {t : TypeId} {x y : Operand}
theorem flat_get {α : Type} (f : α → List DV) (sz : Nat) (hf : ∀ a, (f a).length = sz) (d : α) {xs : List α} {i r : Nat} (hi : i < xs.length) (hr : r < sz) : ((xs.map f).flatten.drop (i * sz + r))[0]? = (f (xs.getD i d))[r]? := by
  rw [← List.drop_drop, flat_drop f sz hf d xs i hi, List.getElem?_drop, List.getElem?_append_left (by rw [hf]; omega)]; rfl
theorem flat_set {α : Type} (f : α → List DV) (sz : Nat) (hf : ∀ a, (f a).length = sz) (d y : α) (v : DV) : ∀ (xs : List α) (i r : Nat), i < xs.length → r < sz → f y = (f (xs.getD i d)).set r v → spl (xs.map f).flatten (i * sz + r) [v] = ((xs.set i y).map f).flatten
  | x :: xs, 0, r, _, hr, hy => by
    have hl := hf x
    have hy : f y = (f x).set r v := hy
    rw [Nat.zero_mul, Nat.zero_add, List.set_cons_zero, List.map_cons, List.flatten_cons, List.map_cons, List.flatten_cons, hy]
    unfold spl
    rw [List.length_singleton, List.take_append_of_le_length (by omega), List.drop_append_of_le_length (by omega), List.set_eq_take_append_cons_drop, if_pos (by omega)]
    simp
  | x :: xs, i + 1, r, hi, hr, hy => by
    have hl := hf x
    have ih := flat_set f sz hf d y v xs i r (by simpa using hi) hr hy
    have e : (i + 1) * sz + r = (f x).length + (i * sz + r) := by rw [hl, Nat.add_mul]; omega
    rw [e, List.set_cons_succ, List.map_cons, List.flatten_cons, List.map_cons, List.flatten_cons, ← ih]
    unfold spl
    rw [List.length_singleton, List.take_length_add_append, Nat.add_assoc, List.drop_length_add_append]
    simp
/-- Items of several cells of a slice of the call's own. -/
theorem o_loadF {α : Type} {nm off n sz : Nat} {b : TypeId} {xs : List α} {f : α → List DV} (d : α) (i r : Nat) [h : TyI P t false n] (hf : ∀ a, (f a).length = sz) (hx : s.ev x = .ptr nm off) (hm : s.mem nm = some ⟨b, (xs.map f).flatten⟩) (hoff : off = i * sz + r) (hi : i < xs.length) (hr : r < sz) {v : DV} (hv : (f (xs.getD i d))[r]? = some v) (gd : Option (Nat × Bool)) :
    Does P ⟨dst, .load t x, ty, ps, af, gd⟩ s [nm] (.put (.d v)) :=
  does_load hx hm (.one h.eq (by show ((xs.map f).flatten.drop off)[0]? = some v; rw [hoff, flat_get f sz hf d hi hr, hv]))
theorem o_storeF {α : Type} {nm off sz : Nat} {b : TypeId} {xs : List α} {f : α → List DV} (d : α) (i r : Nat) {v : DV} {cs : List DV} (z : α) [h : TyI P t false 1] (hf : ∀ a, (f a).length = sz) (hx : s.ev x = .ptr nm off) (hm : s.mem nm = some ⟨b, (xs.map f).flatten⟩) (hy : s.ev y = .d v) (hc : cellsOf v = some cs) (hc1 : cs = [v]) (hoff : off = i * sz + r) (hi : i < xs.length) (hr : r < sz) (hz : f z = (f (xs.getD i d)).set r v) (gd : Option (Nat × Bool)) :
    Does P ⟨dst, .store t x y, ty, ps, af, gd⟩ s [nm] (.setBlk nm ⟨b, ((xs.set i z).map f).flatten⟩) := by
  subst hc1
  refine does_store hx hm hy hc h.eq rfl ?_ ?_
  · show off + 1 ≤ ((xs.map f).flatten).length
    rw [flat_len f sz hf, hoff]
    have : (i + 1) * sz ≤ xs.length * sz := Nat.mul_le_mul_right _ hi
    rw [Nat.add_mul] at this
    omega
  · rw [hoff]; exact flat_set f sz hf d z v xs i r hi hr hz
theorem o_nilCk {nm off : Nat} (hx : s.ev x = .ptr nm off) (gd : Option (Nat × Bool)) : Does P ⟨dst, .nilCheck x, ty, ps, af, gd⟩ s [] (.put (.ptr nm off)) :=
  does_pure fun c s' φ a w hR hop => by
    have e1 := ge_ptr hR (hop x (by simp [Op.operands])) hx
    exact ⟨.pointer (some ⟨(φ nm).1, off, none⟩), by simp only [execOp, e1, Sem.run_pure], rfl⟩
/-- All items but the first one. -/
theorem o_sliceF1 {n m : Nat} {p : Int × Int} {c : List (Int × Int)} {k : IntKind} [ht : IdxI P t false n 2] (hx : s.ev x = .d (.slice m (frK (p :: c)))) (hm : m = c.length + 1) (hy : s.ev y = .d (.val (.int k ((1 : Nat) : Int)))) (gd : Option (Nat × Bool)) : Does P ⟨dst, .slice t x (some y) none none, ty, ps, af, gd⟩ s [] (.put (.d (frS c))) := by
  have h := o_sliceL (P := P) (t := t) (s := s) (x := x) (y := y) (dst := dst) (ty := ty) (ps := ps) (af := af) hx hy (by omega : 1 ≤ m) gd
  have e : m - 1 = c.length := by omega
  have e2 : ((frK (p :: c)).drop (1 * 2)).take ((m - 1) * 2) = frK c := by
    rw [e, ← frK_len]
    show (frK c).take (frK c).length = _
    rw [List.take_length]
  rw [e2, e] at h
  exact h
end

theorem isAt_A (n : Int) : AC Tryz.prog 103 [I n] (B (inR n 0 10000)) := by
  refine ac_body Tryz.func103 rfl (by kernel_rfl) fun w0 ok => ?_; show AWp _ (ctx0 w0 ok _) _ (ARet _ _ _) (entry _)
  (repeat' (first | (with_reducible first | intro hg | refine mv (by constructor) ?_) | ((with_reducible first | refine zR ?_ ?_ | refine zW mixed ?_ ?_); exact kr) | ((with_reducible apply zK); exact rfl; exact tf) | ((with_reducible apply zCD); exact rfl) | ((with_reducible apply zCN); exact rfl) | ((with_reducible apply zC); exact rfl) | ((with_reducible refine zX ?_ ?_); exact rfl) | ((with_reducible refine zE (And.intro ?_ ?_)); exact kr) | (with_reducible refine zE ?_) | ((with_reducible apply zP); (first | exact dp | exact oc rfl (within_A _ _ _))) | ((with_reducible apply zN); exact dn) | ((with_reducible apply zA); exact da) | ((with_reducible apply zS); exact ds) | ((with_reducible apply zY); exact rfl; exact rfl; exact tf) | ((with_reducible apply zG); exact rfl; exact rfl; exact tf) | ((with_reducible apply zU); exact rfl; exact rfl) | ((with_reducible apply zD); exact rfl; exact rfl) | ((with_reducible apply zB); exact rfl; exact rfl)))
  ((with_reducible first | apply q_retR | apply q_retN); exact rl)
  rfl
/-- The error of a point behind a position; of points; of a contour. -/
def ptE (last : Int) (p : Int × Int) : Int := fst0 [unl (inR p.1 0 10000 && inR p.2 (-100000) 100000) 2, unl (decide (last < p.1)) 9]
def ptsE : List (Int × Int) → Int → Nat → Int × Int
  | [], _, _ => (0, 0)
  | p :: c, last, k => bif ptE last p == 0 then ptsE c p.1 (k + 1) else ((k : Int), ptE last p)
theorem ptsE_zero {last : Int} {p : Int × Int} (h : ptE last p = 0) (c : List (Int × Int)) (k : Nat) : ptsE (p :: c) last k = ptsE c p.1 (k + 1) := by
  show (bif ptE last p == 0 then _ else _) = _; rw [h]; rfl
theorem ptsE_ne {last e : Int} {p : Int × Int} (h : ptE last p = e) (he : e ≠ 0) (c : List (Int × Int)) (k : Nat) : ptsE (p :: c) last k = ((k : Int), e) := by
  show (bif ptE last p == 0 then _ else _) = _
  rw [h, show (e == 0) = false from beq_eq_false_iff_ne.2 he]; rfl
def ctH (c : List (Int × Int)) : Int := fst0 [unl (decide ((2 : Int) ≤ c.length)) 10, unl (decide ((c.length : Int) ≤ 10)) 8]
def contE (c : List (Int × Int)) : Int × Int := bif ctH c == 0 then ptsE c (-1) 0 else (0, ctH c)
theorem contE_h {c : List (Int × Int)} {e : Int} (h : ctH c = e) (he : e ≠ 0) : contE c = (0, e) := by
  unfold contE; rw [h, show (e == 0) = false from beq_eq_false_iff_ne.2 he]; rfl
theorem contE_p {c : List (Int × Int)} (h : ctH c = 0) : contE c = ptsE c (-1) 0 := by unfold contE; rw [h]; rfl
theorem checkContour_A (c : List (Int × Int)) (hm : c.length ≤ 140737488355328) : AC Tryz.prog 64 [frS c] (.tuple [I (contE c).1, I (contE c).2]) := by
  have h0' : ctH c = fst0 [unl (decide ((2 : Int) ≤ c.length)) 10, unl (decide ((c.length : Int) ≤ 10)) 8] := rfl
  by_cases h0 : ctH c = 0
  rotate_left
  · rw [contE_h rfl h0]
    rw [h0'] at h0 ⊢
    refine ac_body Tryz.func64 rfl (by kernel_rfl) fun w0 ok => ?_; show AWp _ (ctx0 w0 ok _) _ (ARet _ _ _) (entry _)
    (repeat' (first | (with_reducible first | intro hg | refine mv (by constructor) ?_) | ((with_reducible first | refine zR ?_ ?_ | refine zW mixed ?_ ?_); exact kr) | ((with_reducible apply zK); exact rfl; exact tf) | ((with_reducible apply zCD); exact rfl) | ((with_reducible apply zCN); exact rfl) | ((with_reducible apply zC); exact rfl) | ((with_reducible refine zX ?_ ?_); exact rfl) | ((with_reducible refine zE (And.intro ?_ ?_)); exact kr) | (with_reducible refine zE ?_) | ((with_reducible apply zP); (first | exact dp | exact oc rfl (unless_A _ _) | exact oc rfl (first2_A _ _))) | ((with_reducible apply zN); exact dn) | ((with_reducible apply zA); exact da) | ((with_reducible apply zS); exact ds) | ((with_reducible apply zY); exact rfl; exact rfl; exact tf) | ((with_reducible apply zG); exact rfl; exact rfl; exact tf) | ((with_reducible apply zU); exact rfl; exact rfl) | ((with_reducible apply zD); exact rfl; exact rfl) | ((with_reducible apply zB); exact rfl; exact rfl)))
    ((with_reducible first | apply q_retR | apply q_retN); exact rl)
    rfl
  rw [contE_p h0]
  rw [h0'] at h0
  refine ac_body Tryz.func64 rfl (by kernel_rfl) fun w0 ok => ?_; show AWp _ (ctx0 w0 ok _) _ (ARet _ _ _) (entry _)
  (repeat' (first | (with_reducible first | intro hg | refine mv (by constructor) ?_) | ((with_reducible first | refine zR ?_ ?_ | refine zW mixed ?_ ?_); exact kr) | ((with_reducible apply zK); exact rfl; exact tf) | ((with_reducible apply zCD); exact rfl) | ((with_reducible apply zCN); exact rfl) | ((with_reducible apply zC); exact rfl) | ((with_reducible refine zX ?_ ?_); exact rfl) | ((with_reducible refine zE (And.intro ?_ ?_)); exact kr) | (with_reducible refine zE ?_) | ((with_reducible apply zP); (first | exact dp | exact oc rfl (unless_A _ _) | exact oc rfl (first2_A _ _))) | ((with_reducible apply zN); exact dn) | ((with_reducible apply zA); exact da) | ((with_reducible apply zS); exact ds) | ((with_reducible apply zY); exact rfl; exact rfl; exact tf) | ((with_reducible apply zG); exact rfl; exact rfl; exact tf) | ((with_reducible apply zU); exact rfl; exact rfl) | ((with_reducible apply zD); exact rfl; exact rfl) | ((with_reducible apply zB); exact rfl; exact rfl)))
  refine awp_loopL2 (fun (k : Nat) (last : Int) => [(5, .d (I last)), (22, .d (frS c)), (23, .d (I c.length)), (24, .d (I k))]) (fun _ _ => []) (fun k last => k ≤ c.length ∧ ptsE (c.drop k) last k = ptsE c (-1) 0) (fun k _ => c.length - k) 0 (-1) ⟨Nat.zero_le _, rfl⟩ (And.intro rfl (And.intro rfl (And.intro rfl (And.intro rfl trivial)))) trivial fun k last ⟨hk, hd⟩ => ?_
  by_cases hlt : k < c.length
  rotate_left
  · rw [List.drop_of_length_le (by omega)] at hd
    (repeat' (first | (with_reducible first | intro hg | refine mv (by constructor) ?_) | ((with_reducible first | refine zR ?_ ?_ | refine zW mixed ?_ ?_); exact kr) | ((with_reducible apply zK); exact rfl; exact tf) | ((with_reducible apply zCD); exact rfl) | ((with_reducible apply zCN); exact rfl) | ((with_reducible apply zC); exact rfl) | ((with_reducible refine zX ?_ ?_); exact rfl) | ((with_reducible refine zE (And.intro ?_ ?_)); exact kr) | (with_reducible refine zE ?_) | ((with_reducible apply zP); exact dp) | ((with_reducible apply zN); exact dn) | ((with_reducible apply zA); exact da) | ((with_reducible apply zS); exact ds) | ((with_reducible apply zY); exact rfl; exact rfl; exact tf) | ((with_reducible apply zG); exact rfl; exact rfl; exact tf) | ((with_reducible apply zU); exact rfl; exact rfl) | ((with_reducible apply zD); exact rfl; exact rfl) | ((with_reducible apply zB); exact rfl; exact rfl)))
    ((with_reducible first | apply q_retR | apply q_retN); exact rl)
    rw [← hd]; rfl
  rw [drop_getF hlt] at hd
  have ha := isAt_A (c.getD k f0).1
  have hs := small_A (c.getD k f0).2 100000 ⟨by decide, by decide⟩
  have hpe : ptE last (c.getD k f0) = fst0 [unl (inR (c.getD k f0).1 0 10000 && inR (c.getD k f0).2 (-100000) 100000) 2, unl (decide (last < (c.getD k f0).1)) 9] := rfl
  cases i1 : inR (c.getD k f0).1 0 10000
  · rw [i1] at ha hpe
    replace hpe : ptE last (c.getD k f0) = 2 := hpe
    rw [ptsE_ne hpe (by decide)] at hd
    have h3 : AC Tryz.prog 56 [.slice 2 [I (unl false 2), I (unl (decide (last < (c.getD k f0).1)) 9)]] (I 2) := first2_A _ _
    (repeat' (first | (with_reducible first | intro hg | refine mv (by constructor) ?_) | ((with_reducible first | refine zR ?_ ?_ | refine zW mixed ?_ ?_); exact kr) | ((with_reducible apply zK); exact rfl; exact tf) | ((with_reducible apply zCD); exact rfl) | ((with_reducible apply zCN); exact rfl) | ((with_reducible apply zC); exact rfl) | ((with_reducible refine zX ?_ ?_); exact rfl) | ((with_reducible refine zE (And.intro ?_ ?_)); exact kr) | (with_reducible refine zE ?_) | ((with_reducible apply zP); (first | exact o_indexF f0 frC_len (by decide) rfl rfl (by omega) rfl | exact dp | exact oc rfl (ha) | exact oc rfl (unless_A _ _) | exact oc rfl (h3))) | ((with_reducible apply zN); exact dn) | ((with_reducible apply zA); exact da) | ((with_reducible apply zS); exact ds) | ((with_reducible apply zY); exact rfl; exact rfl; exact tf) | ((with_reducible apply zG); exact rfl; exact rfl; exact tf) | ((with_reducible apply zU); exact rfl; exact rfl) | ((with_reducible apply zD); exact rfl; exact rfl) | ((with_reducible apply zB); exact rfl; exact rfl)))
    ((with_reducible first | apply q_retR | apply q_retN); exact rl)
    rw [← hd]; rfl
  · rw [i1] at ha hpe
    replace hpe : ptE last (c.getD k f0) = fst0 [unl (inR (c.getD k f0).2 (-100000) 100000) 2, unl (decide (last < (c.getD k f0).1)) 9] := hpe
    by_cases hz : ptE last (c.getD k f0) = 0
    · rw [ptsE_zero hz] at hd
      rw [hpe] at hz
      (repeat' (first | (with_reducible first | intro hg | refine mv (by constructor) ?_) | ((with_reducible first | refine zR ?_ ?_ | refine zW mixed ?_ ?_); exact kr) | ((with_reducible apply zK); exact rfl; exact tf) | ((with_reducible apply zCD); exact rfl) | ((with_reducible apply zCN); exact rfl) | ((with_reducible apply zC); exact rfl) | ((with_reducible refine zX ?_ ?_); exact rfl) | ((with_reducible refine zE (And.intro ?_ ?_)); exact kr) | (with_reducible refine zE ?_) | ((with_reducible apply zP); (first | exact o_indexF f0 frC_len (by decide) rfl rfl (by omega) rfl | exact dp | exact oc rfl (ha) | exact oc rfl (hs) | exact oc rfl (unless_A _ _) | exact oc rfl (first2_A _ _))) | ((with_reducible apply zN); exact dn) | ((with_reducible apply zA); exact da) | ((with_reducible apply zS); exact ds) | ((with_reducible apply zY); exact rfl; exact rfl; exact tf) | ((with_reducible apply zG); exact rfl; exact rfl; exact tf) | ((with_reducible apply zU); exact rfl; exact rfl) | ((with_reducible apply zD); exact rfl; exact rfl) | ((with_reducible apply zB); exact rfl; exact rfl)))
      exact ⟨k + 1, _, ⟨hlt, hd⟩, by omega, (And.intro rfl (And.intro rfl (And.intro rfl (And.intro rfl trivial)))), trivial⟩
    · rw [ptsE_ne rfl hz] at hd
      rw [← hd]
      rw [hpe] at hz ⊢
      (repeat' (first | (with_reducible first | intro hg | refine mv (by constructor) ?_) | ((with_reducible first | refine zR ?_ ?_ | refine zW mixed ?_ ?_); exact kr) | ((with_reducible apply zK); exact rfl; exact tf) | ((with_reducible apply zCD); exact rfl) | ((with_reducible apply zCN); exact rfl) | ((with_reducible apply zC); exact rfl) | ((with_reducible refine zX ?_ ?_); exact rfl) | ((with_reducible refine zE (And.intro ?_ ?_)); exact kr) | (with_reducible refine zE ?_) | ((with_reducible apply zP); (first | exact o_indexF f0 frC_len (by decide) rfl rfl (by omega) rfl | exact dp | exact oc rfl (ha) | exact oc rfl (hs) | exact oc rfl (unless_A _ _) | exact oc rfl (first2_A _ _))) | ((with_reducible apply zN); exact dn) | ((with_reducible apply zA); exact da) | ((with_reducible apply zS); exact ds) | ((with_reducible apply zY); exact rfl; exact rfl; exact tf) | ((with_reducible apply zG); exact rfl; exact rfl; exact tf) | ((with_reducible apply zU); exact rfl; exact rfl) | ((with_reducible apply zD); exact rfl; exact rfl) | ((with_reducible apply zB); exact rfl; exact rfl)))
      ((with_reducible first | apply q_retR | apply q_retN); exact rl)
      rfl
def lastP (c : List (Int × Int)) : Nat → Int
  | 0 => -1
  | k + 1 => (c.getD k f0).1
theorem refCheckContour_A (c : List (Int × Int)) (hm : c.length ≤ 140737488355328) : AC Tryz.prog 63 [frS c] (.tuple [I (contE c).1, I (contE c).2]) := by
  by_cases h2 : (2 : Int) ≤ c.length
  rotate_left
  · have h0 : ctH c = 10 := by unfold ctH; rw [fst0_stop (by decide) (decide_eq_false h2)]
    rw [contE_h h0 (by decide)]
    refine ac_body Tryz.func63 rfl (by kernel_rfl) fun w0 ok => ?_; show AWp _ (ctx0 w0 ok _) _ (ARet _ _ _) (entry _)
    (repeat' (first | (with_reducible first | intro hg | refine mv (by constructor) ?_) | ((with_reducible first | refine zR ?_ ?_ | refine zW mixed ?_ ?_); exact kr) | ((with_reducible apply zK); exact rfl; exact tf) | ((with_reducible apply zCD); exact rfl) | ((with_reducible apply zCN); exact rfl) | ((with_reducible apply zC); exact rfl) | ((with_reducible refine zX ?_ ?_); exact rfl) | ((with_reducible refine zE (And.intro ?_ ?_)); exact kr) | (with_reducible refine zE ?_) | ((with_reducible apply zP); exact dp) | ((with_reducible apply zN); exact dn) | ((with_reducible apply zA); exact da) | ((with_reducible apply zS); exact ds) | ((with_reducible apply zY); exact rfl; exact rfl; exact tf) | ((with_reducible apply zG); exact rfl; exact rfl; exact tf) | ((with_reducible apply zU); exact rfl; exact rfl) | ((with_reducible apply zD); exact rfl; exact rfl) | ((with_reducible apply zB); exact rfl; exact rfl)))
    ((with_reducible first | apply q_retR | apply q_retN); exact rl)
    rfl
  by_cases h10 : (c.length : Int) ≤ 10
  rotate_left
  · have h0 : ctH c = 8 := by unfold ctH; rw [fst0_skip (decide_eq_true h2), fst0_stop (by decide) (decide_eq_false h10)]
    rw [contE_h h0 (by decide)]
    refine ac_body Tryz.func63 rfl (by kernel_rfl) fun w0 ok => ?_; show AWp _ (ctx0 w0 ok _) _ (ARet _ _ _) (entry _)
    (repeat' (first | (with_reducible first | intro hg | refine mv (by constructor) ?_) | ((with_reducible first | refine zR ?_ ?_ | refine zW mixed ?_ ?_); exact kr) | ((with_reducible apply zK); exact rfl; exact tf) | ((with_reducible apply zCD); exact rfl) | ((with_reducible apply zCN); exact rfl) | ((with_reducible apply zC); exact rfl) | ((with_reducible refine zX ?_ ?_); exact rfl) | ((with_reducible refine zE (And.intro ?_ ?_)); exact kr) | (with_reducible refine zE ?_) | ((with_reducible apply zP); exact dp) | ((with_reducible apply zN); exact dn) | ((with_reducible apply zA); exact da) | ((with_reducible apply zS); exact ds) | ((with_reducible apply zY); exact rfl; exact rfl; exact tf) | ((with_reducible apply zG); exact rfl; exact rfl; exact tf) | ((with_reducible apply zU); exact rfl; exact rfl) | ((with_reducible apply zD); exact rfl; exact rfl) | ((with_reducible apply zB); exact rfl; exact rfl)))
    ((with_reducible first | apply q_retR | apply q_retN); exact rl)
    rfl
  have h0 : ctH c = 0 := by unfold ctH; rw [fst0_skip (decide_eq_true h2), fst0_skip (decide_eq_true h10)]; rfl
  rw [contE_p h0]
  refine ac_body Tryz.func63 rfl (by kernel_rfl) fun w0 ok => ?_; show AWp _ (ctx0 w0 ok _) _ (ARet _ _ _) (entry _)
  (repeat' (first | (with_reducible first | intro hg | refine mv (by constructor) ?_) | ((with_reducible first | refine zR ?_ ?_ | refine zW mixed ?_ ?_); exact kr) | ((with_reducible apply zK); exact rfl; exact tf) | ((with_reducible apply zCD); exact rfl) | ((with_reducible apply zCN); exact rfl) | ((with_reducible apply zC); exact rfl) | ((with_reducible refine zX ?_ ?_); exact rfl) | ((with_reducible refine zE (And.intro ?_ ?_)); exact kr) | (with_reducible refine zE ?_) | ((with_reducible apply zP); exact dp) | ((with_reducible apply zN); exact dn) | ((with_reducible apply zA); exact da) | ((with_reducible apply zS); exact ds) | ((with_reducible apply zY); exact rfl; exact rfl; exact tf) | ((with_reducible apply zG); exact rfl; exact rfl; exact tf) | ((with_reducible apply zU); exact rfl; exact rfl) | ((with_reducible apply zD); exact rfl; exact rfl) | ((with_reducible apply zB); exact rfl; exact rfl)))
  refine awp_loopL (α := Nat) (fun k => [(0, .d (frS c)), (4, .d (I k))]) (fun _ => []) (fun k => k ≤ c.length ∧ ptsE (c.drop k) (lastP c k) k = ptsE c (-1) 0) (fun k => c.length - k) 0 ⟨Nat.zero_le _, rfl⟩ (And.intro rfl (And.intro rfl trivial)) trivial fun k ⟨hk, hd⟩ => ?_
  by_cases hlt : k < c.length
  rotate_left
  · rw [List.drop_of_length_le (by omega)] at hd
    (repeat' (first | (with_reducible first | intro hg | refine mv (by constructor) ?_) | ((with_reducible first | refine zR ?_ ?_ | refine zW mixed ?_ ?_); exact kr) | ((with_reducible apply zK); exact rfl; exact tf) | ((with_reducible apply zCD); exact rfl) | ((with_reducible apply zCN); exact rfl) | ((with_reducible apply zC); exact rfl) | ((with_reducible refine zX ?_ ?_); exact rfl) | ((with_reducible refine zE (And.intro ?_ ?_)); exact kr) | (with_reducible refine zE ?_) | ((with_reducible apply zP); exact dp) | ((with_reducible apply zN); exact dn) | ((with_reducible apply zA); exact da) | ((with_reducible apply zS); exact ds) | ((with_reducible apply zY); exact rfl; exact rfl; exact tf) | ((with_reducible apply zG); exact rfl; exact rfl; exact tf) | ((with_reducible apply zU); exact rfl; exact rfl) | ((with_reducible apply zD); exact rfl; exact rfl) | ((with_reducible apply zB); exact rfl; exact rfl)))
    ((with_reducible first | apply q_retR | apply q_retN); exact rl)
    rw [← hd]; rfl
  rw [drop_getF hlt] at hd
  have v1 := bwithin_A (c.getD k f0).1 0 10000
  have v2 := bwithin_A (c.getD k f0).2 (-100000) 100000
  have hpe : ptE (lastP c k) (c.getD k f0) = fst0 [unl (inR (c.getD k f0).1 0 10000 && inR (c.getD k f0).2 (-100000) 100000) 2, unl (decide (lastP c k < (c.getD k f0).1)) 9] := rfl
  cases i1 : inR (c.getD k f0).1 0 10000
  · rw [i1] at v1 hpe
    replace hpe : ptE (lastP c k) (c.getD k f0) = 2 := hpe
    rw [ptsE_ne hpe (by decide)] at hd
    (repeat' (first | (with_reducible first | intro hg | refine mv (by constructor) ?_) | ((with_reducible first | refine zR ?_ ?_ | refine zW mixed ?_ ?_); exact kr) | ((with_reducible apply zK); exact rfl; exact tf) | ((with_reducible apply zCD); exact rfl) | ((with_reducible apply zCN); exact rfl) | ((with_reducible apply zC); exact rfl) | ((with_reducible refine zX ?_ ?_); exact rfl) | ((with_reducible refine zE (And.intro ?_ ?_)); exact kr) | (with_reducible refine zE ?_) | ((with_reducible apply zP); (first | exact o_indexF f0 frC_len (by decide) rfl rfl (by omega) rfl | exact dp | exact oc rfl (v1))) | ((with_reducible apply zN); exact dn) | ((with_reducible apply zA); exact da) | ((with_reducible apply zS); exact ds) | ((with_reducible apply zY); exact rfl; exact rfl; exact tf) | ((with_reducible apply zG); exact rfl; exact rfl; exact tf) | ((with_reducible apply zU); exact rfl; exact rfl) | ((with_reducible apply zD); exact rfl; exact rfl) | ((with_reducible apply zB); exact rfl; exact rfl)))
    ((with_reducible first | apply q_retR | apply q_retN); exact rl)
    rw [← hd]; rfl
  cases i2 : inR (c.getD k f0).2 (-100000) 100000
  · rw [i1] at v1
    rw [i2] at v2
    rw [i1, i2] at hpe
    replace hpe : ptE (lastP c k) (c.getD k f0) = 2 := hpe
    rw [ptsE_ne hpe (by decide)] at hd
    (repeat' (first | (with_reducible first | intro hg | refine mv (by constructor) ?_) | ((with_reducible first | refine zR ?_ ?_ | refine zW mixed ?_ ?_); exact kr) | ((with_reducible apply zK); exact rfl; exact tf) | ((with_reducible apply zCD); exact rfl) | ((with_reducible apply zCN); exact rfl) | ((with_reducible apply zC); exact rfl) | ((with_reducible refine zX ?_ ?_); exact rfl) | ((with_reducible refine zE (And.intro ?_ ?_)); exact kr) | (with_reducible refine zE ?_) | ((with_reducible apply zP); (first | exact o_indexF f0 frC_len (by decide) rfl rfl (by omega) rfl | exact dp | exact oc rfl (v1) | exact oc rfl (v2))) | ((with_reducible apply zN); exact dn) | ((with_reducible apply zA); exact da) | ((with_reducible apply zS); exact ds) | ((with_reducible apply zY); exact rfl; exact rfl; exact tf) | ((with_reducible apply zG); exact rfl; exact rfl; exact tf) | ((with_reducible apply zU); exact rfl; exact rfl) | ((with_reducible apply zD); exact rfl; exact rfl) | ((with_reducible apply zB); exact rfl; exact rfl)))
    ((with_reducible first | apply q_retR | apply q_retN); exact rl)
    rw [← hd]; rfl
  have j1 := inR_iff.1 i1
  rw [i1] at v1
  rw [i2] at v2
  rw [i1, i2] at hpe
  replace hpe : ptE (lastP c k) (c.getD k f0) = fst0 [unl true 2, unl (decide (lastP c k < (c.getD k f0).1)) 9] := hpe
  rw [fst0_skip rfl, fst0_one] at hpe
  rcases k with _ | k
  · have hz : ptE (lastP c 0) (c.getD 0 f0) = 0 := by rw [hpe, decide_eq_true (by show (-1 : Int) < _; omega)]; rfl
    rw [ptsE_zero hz] at hd
    (repeat' (first | (with_reducible first | intro hg | refine mv (by constructor) ?_) | ((with_reducible first | refine zR ?_ ?_ | refine zW mixed ?_ ?_); exact kr) | ((with_reducible apply zK); exact rfl; exact tf) | ((with_reducible apply zCD); exact rfl) | ((with_reducible apply zCN); exact rfl) | ((with_reducible apply zC); exact rfl) | ((with_reducible refine zX ?_ ?_); exact rfl) | ((with_reducible refine zE (And.intro ?_ ?_)); exact kr) | (with_reducible refine zE ?_) | ((with_reducible apply zP); (first | exact o_indexF (j := 0) f0 frC_len (by decide) rfl rfl (by omega) rfl | exact dp | exact oc rfl (v1) | exact oc rfl (v2))) | ((with_reducible apply zN); exact dn) | ((with_reducible apply zA); exact da) | ((with_reducible apply zS); exact ds) | ((with_reducible apply zY); exact rfl; exact rfl; exact tf) | ((with_reducible apply zG); exact rfl; exact rfl; exact tf) | ((with_reducible apply zU); exact rfl; exact rfl) | ((with_reducible apply zD); exact rfl; exact rfl) | ((with_reducible apply zB); exact rfl; exact rfl)))
    exact ⟨1, ⟨hlt, hd⟩, by omega, (And.intro rfl (And.intro rfl trivial)), trivial⟩
  · have hlp : lastP c (k + 1) = (c.getD k f0).1 := rfl
    rw [hlp] at hpe
    have hidx : AV.d (I (((k + 1 : Nat) : Int) - 1)) = AV.d (I (k : Int)) := congrArg (fun n => AV.d (I n)) (by omega)
    by_cases hlt2 : (c.getD k f0).1 < (c.getD (k + 1) f0).1
    · have hz : ptE (lastP c (k + 1)) (c.getD (k + 1) f0) = 0 := by rw [hlp, hpe, decide_eq_true hlt2]; rfl
      rw [ptsE_zero hz] at hd
      (repeat' (first | (with_reducible first | intro hg | refine mv (by constructor) ?_) | ((with_reducible first | refine zR ?_ ?_ | refine zW mixed ?_ ?_); exact kr) | ((with_reducible apply zK); exact rfl; exact tf) | ((with_reducible apply zCD); exact rfl) | ((with_reducible apply zCN); exact rfl) | ((with_reducible apply zC); exact rfl) | ((with_reducible refine zX ?_ ?_); exact rfl) | ((with_reducible refine zE (And.intro ?_ ?_)); exact kr) | (with_reducible refine zE ?_) | ((with_reducible apply zP); (first | exact o_indexF (j := k + 1) f0 frC_len (by decide) rfl rfl (by omega) rfl | exact o_indexF (j := k) f0 frC_len (by decide) rfl hidx (by omega) rfl | exact dp | exact oc rfl (v1) | exact oc rfl (v2))) | ((with_reducible apply zN); exact dn) | ((with_reducible apply zA); exact da) | ((with_reducible apply zS); exact ds) | ((with_reducible apply zY); exact rfl; exact rfl; exact tf) | ((with_reducible apply zG); exact rfl; exact rfl; exact tf) | ((with_reducible apply zU); exact rfl; exact rfl) | ((with_reducible apply zD); exact rfl; exact rfl) | ((with_reducible apply zB); exact rfl; exact rfl)))
      exact ⟨k + 1 + 1, ⟨hlt, hd⟩, by omega, (And.intro rfl (And.intro rfl trivial)), trivial⟩
    · have hz : ptE (lastP c (k + 1)) (c.getD (k + 1) f0) = 9 := by rw [hlp, hpe, decide_eq_false hlt2]; rfl
      rw [ptsE_ne hz (by decide)] at hd
      (repeat' (first | (with_reducible first | intro hg | refine mv (by constructor) ?_) | ((with_reducible first | refine zR ?_ ?_ | refine zW mixed ?_ ?_); exact kr) | ((with_reducible apply zK); exact rfl; exact tf) | ((with_reducible apply zCD); exact rfl) | ((with_reducible apply zCN); exact rfl) | ((with_reducible apply zC); exact rfl) | ((with_reducible refine zX ?_ ?_); exact rfl) | ((with_reducible refine zE (And.intro ?_ ?_)); exact kr) | (with_reducible refine zE ?_) | ((with_reducible apply zP); (first | exact o_indexF (j := k + 1) f0 frC_len (by decide) rfl rfl (by omega) rfl | exact o_indexF (j := k) f0 frC_len (by decide) rfl hidx (by omega) rfl | exact dp | exact oc rfl (v1) | exact oc rfl (v2))) | ((with_reducible apply zN); exact dn) | ((with_reducible apply zA); exact da) | ((with_reducible apply zS); exact ds) | ((with_reducible apply zY); exact rfl; exact rfl; exact tf) | ((with_reducible apply zG); exact rfl; exact rfl; exact tf) | ((with_reducible apply zU); exact rfl; exact rfl) | ((with_reducible apply zD); exact rfl; exact rfl) | ((with_reducible apply zB); exact rfl; exact rfl)))
      ((with_reducible first | apply q_retR | apply q_retN); exact rl)
      rw [← hd]; rfl
theorem contourErr_A (c : List (Int × Int)) (hm : c.length ≤ 140737488355328) : AC Tryz.prog 24 [frS c] (I (contE c).2) := by
  have h := refCheckContour_A c hm
  refine ac_body Tryz.func24 rfl (by kernel_rfl) fun w0 ok => ?_; show AWp _ (ctx0 w0 ok _) _ (ARet _ _ _) (entry _)
  (repeat' (first | (with_reducible first | intro hg | refine mv (by constructor) ?_) | ((with_reducible first | refine zR ?_ ?_ | refine zW mixed ?_ ?_); exact kr) | ((with_reducible apply zK); exact rfl; exact tf) | ((with_reducible apply zCD); exact rfl) | ((with_reducible apply zCN); exact rfl) | ((with_reducible apply zC); exact rfl) | ((with_reducible refine zX ?_ ?_); exact rfl) | ((with_reducible refine zE (And.intro ?_ ?_)); exact kr) | (with_reducible refine zE ?_) | ((with_reducible apply zP); (first | exact dp | exact oc rfl (h))) | ((with_reducible apply zN); exact dn) | ((with_reducible apply zA); exact da) | ((with_reducible apply zS); exact ds) | ((with_reducible apply zY); exact rfl; exact rfl; exact tf) | ((with_reducible apply zG); exact rfl; exact rfl; exact tf) | ((with_reducible apply zU); exact rfl; exact rfl) | ((with_reducible apply zD); exact rfl; exact rfl) | ((with_reducible apply zB); exact rfl; exact rfl)))
  ((with_reducible first | apply q_retR | apply q_retN); exact rl)
  rfl

end Go.Proofs.YtagpmpbmfjaiiaaGreatDoor
