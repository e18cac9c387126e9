/- The factor of a growth, by the package (chapter 5). -/
import Derived.Test.YtfcfmpdpjmbcnaaGreatDp
import Derived.Test.YtfcfmpdpjmbcnaaGreatEk
set_option linter.unusedVariables false
set_option linter.unusedSimpArgs false
namespace Go.Proofs.YtfcfmpdpjmbcnaaGreat
open Go.RowKit
set_option maxRecDepth 20000
set_option maxHeartbeats 8000000

abbrev wC (w : Wd) : List DV := [U (w.1 / 18446744073709551616), U (w.1 % 18446744073709551616), B w.2]
abbrev wS (l : List Wd) : List DV := (l.map wC).flatten
theorem wC_len (w : Wd) : (wC w).length = 3 := rfl
theorem wS_len (l : List Wd) : (wS l).length = l.length * 3 := flat_len wC 3 wC_len l
theorem idxF_ok (p : Int → Bool) : ∀ (xs : List Int) (k : Nat), xs.any p = true → ∃ j : Nat, idxF p xs k = ((k + j : Nat) : Int) ∧ j < xs.length ∧ p (nth xs j) = true
  | [], k, h => by cases h
  | x :: l, k, h => by
    cases hx : p x
    · rw [List.any_cons, hx, Bool.false_or] at h
      obtain ⟨j, h1, h2, h3⟩ := idxF_ok p l (k + 1) h
      refine ⟨j + 1, ?_, Nat.succ_lt_succ h2, h3⟩
      show (bif p x then (k : Int) else idxF p l (k + 1)) = _
      rw [hx]
      show idxF p l (k + 1) = _
      rw [h1]
      congr 1
      omega
    · refine ⟨0, ?_, Nat.zero_lt_succ _, hx⟩
      show (bif p x then (k : Int) else idxF p l (k + 1)) = _
      rw [hx]; rfl
theorem nz_ok {x : List Int} (h : x.any (fun n => decide (n ≠ 0)) = true) : idxF (fun n => decide (n ≠ 0)) x 0 = ((nzAt x : Nat) : Int) ∧ nzAt x < x.length ∧ nth x (nzAt x) ≠ 0 := by
  obtain ⟨j, h1, h2, h3⟩ := idxF_ok _ x 0 h
  rw [Nat.zero_add] at h1
  have e : nzAt x = j := by unfold nzAt; rw [h1]; exact Int.toNat_natCast j
  rw [e]
  exact ⟨h1, h2, by simpa using h3⟩
theorem gwW_no {st : List Wd} {x : List Int} {D : Int} {i : Nat} (hi : i < x.length) (h : eqW (byW (st.getD i wd0) (nth x (nzAt x))) (byW (st.getD (nzAt x) wd0) (nth x i)) = false) : gwW st x D = ((0, 0), 19) := by
  unfold gwW
  rw [show (List.range x.length).all (fun i => eqW (byW (st.getD i wd0) (nth x (nzAt x))) (byW (st.getD (nzAt x) wd0) (nth x i))) = false from ?_]
  · rfl
  · rw [List.all_eq_false]
    exact ⟨i, List.mem_range.2 hi, by rw [h]; decide⟩
theorem gwW_yes {st : List Wd} {x : List Int} {D : Int} (h : ∀ i, i < x.length → eqW (byW (st.getD i wd0) (nth x (nzAt x))) (byW (st.getD (nzAt x) wd0) (nth x i)) = true) : gwW st x D = fcW (st.getD (nzAt x) wd0) (nth x (nzAt x) * D) := by
  unfold gwW
  rw [show (List.range x.length).all (fun i => eqW (byW (st.getD i wd0) (nth x (nzAt x))) (byW (st.getD (nzAt x) wd0) (nth x i))) = true from List.all_eq_true.2 fun i hi => h i (List.mem_range.1 hi)]
  rfl
theorem fac1_A (n : Int) : AC Tryz.prog 86 ([I n] ++ []) (B (decide (n ≠ 0))) := by
  refine ac_body Tryz.func86 rfl (by kernel_rfl) fun w0 ok => ?_; show AWp _ (ctx0 w0 ok _) _ (ARet _ _ _) (entry _)
  (repeat' (first | (with_reducible first | intro hg | refine mv (by constructor) ?_) | ((with_reducible first | refine zR ?_ ?_ | refine zW mixed ?_ ?_); exact kr) | ((with_reducible apply zK); exact rfl; exact tf) | ((with_reducible apply zCD); exact rfl) | ((with_reducible apply zCN); exact rfl) | ((with_reducible apply zC); exact rfl) | ((with_reducible refine zX ?_ ?_); exact rfl) | ((with_reducible refine zE (And.intro ?_ ?_)); exact kr) | (with_reducible refine zE ?_) | ((with_reducible apply zP); exact dp) | ((with_reducible apply zN); exact dn) | ((with_reducible apply zA); exact da) | ((with_reducible apply zS); exact ds) | ((with_reducible apply zY); exact rfl; exact rfl; exact tf) | ((with_reducible apply zG); exact rfl; exact rfl; exact tf) | ((with_reducible apply zU); exact rfl; exact rfl) | ((with_reducible apply zD); exact rfl; exact rfl) | ((with_reducible apply zB); exact rfl; exact rfl)))
  ((with_reducible first | apply q_retR | apply q_retN); exact rl)
  rfl
theorem factor_A (st : List Wd) (x : List Int) (D : Int) (hl : st.length = x.length) (hL : x.length ≤ 1000) (hx : ∀ i, (nth x i).natAbs ≤ 100) (hk : ∀ i, (st.getD i wd0).1 ≤ 100000000000000000000000) (hD : 1 ≤ D ∧ D ≤ 1000000000) (ha : x.any (fun n => decide (n ≠ 0)) = true) :
    AC Tryz.prog 43 [.slice x.length (wS st), isl x, I D] (.tuple [F2 (gwW st x D).1, I (gwW st x D).2]) := by
  obtain ⟨h1, hjl, hjn⟩ := nz_ok ha
  have wix := indexFunc_A 86 (EntI.eq (P := Tryz.prog) (f := 86)) .val (fun n => decide (n ≠ 0)) x (by omega) (fun n _ => fac1_A n)
  rw [h1] at wix
  have hno := fun i (hi : i < x.length) => @gwW_no st x D i hi
  have hyes := @gwW_yes st x D
  generalize gwW st x D = Rr at *
  generalize nzAt x = j at *
  have hxj := hx j
  have hkj := hk j
  clear h1 ha
  refine ac_body Tryz.func43 rfl (by kernel_rfl) fun w0 ok => ?_; show AWp _ (ctx0 w0 ok _) _ (ARet _ _ _) (entry _)
  (repeat' (first | (with_reducible first | intro hg | refine mv (by constructor) ?_) | ((with_reducible first | refine zR ?_ ?_ | refine zW mixed ?_ ?_); exact kr) | ((with_reducible apply zK); exact rfl; exact tf) | ((with_reducible apply zCD); exact rfl) | ((with_reducible apply zCN); exact rfl) | ((with_reducible apply zC); exact rfl) | ((with_reducible refine zX ?_ ?_); exact rfl) | ((with_reducible refine zE (And.intro ?_ ?_)); exact kr) | (with_reducible refine zE ?_) | ((with_reducible apply zP); (first | exact dp | exact oc rfl (wix))) | ((with_reducible apply zN); exact dn) | ((with_reducible apply zA); exact da) | ((with_reducible apply zS); exact ds) | ((with_reducible apply zY); exact rfl; exact rfl; exact tf) | ((with_reducible apply zG); exact rfl; exact rfl; exact tf) | ((with_reducible apply zU); exact rfl; exact rfl) | ((with_reducible apply zD); exact rfl; exact rfl) | ((with_reducible apply zB); exact rfl; exact rfl)))
  refine awp_loopL (α := Nat) (fun k => [(0, .d (.slice x.length (wS st))), (1, .d (isl x)), (2, .d (I D)), (6, .ptr 6 0), (8, .d (I j)), (19, .d (I x.length)), (20, .d (I k))]) (fun _ => [(6, ⟨34, [I 0, I 0]⟩)]) (fun k => k ≤ x.length ∧ ∀ i, i < k → eqW (byW (st.getD i wd0) (nth x j)) (byW (st.getD j wd0) (nth x i)) = true) (fun k => x.length - k) 0 ⟨Nat.zero_le _, fun i hi => absurd hi (by omega)⟩ (And.intro rfl (And.intro rfl (And.intro rfl (And.intro rfl (And.intro rfl (And.intro rfl (And.intro rfl trivial))))))) (And.intro rfl trivial) fun k ⟨hk1, hall⟩ => ?_
  by_cases hlt : k < x.length
  · have hxk := hx k
    have hkk := hk k
    have hno := hno k hlt
    have p1 : (st.getD k wd0).1 * (nth x j).natAbs ≤ 100000000000000000000000 * 100 := Nat.mul_le_mul hkk hxj
    have p2 : (st.getD j wd0).1 * (nth x k).natAbs ≤ 100000000000000000000000 * 100 := Nat.mul_le_mul hkj hxk
    have wa := by_A (st.getD k wd0) (nth x j) ⟨by omega, by omega⟩ (by omega)
    have wb := by_A (st.getD j wd0) (nth x k) ⟨by omega, by omega⟩ (by omega)
    have we := equals_A (byW (st.getD k wd0) (nth x j)) (byW (st.getD j wd0) (nth x k))
    have hm : x.length - (k + 1) < x.length - k := by omega
    clear p1 p2 hx hk hyes wix hxk hkk hxj hkj hD
    cases he : eqW (byW (st.getD k wd0) (nth x j)) (byW (st.getD j wd0) (nth x k))
    · obtain rfl := hno he
      rw [he] at we
      clear hall
      (repeat' (first | (with_reducible first | intro hg | refine mv (by constructor) ?_) | ((with_reducible first | refine zR ?_ ?_ | refine zW mixed ?_ ?_); exact kr) | ((with_reducible apply zK); exact rfl; exact tf) | ((with_reducible apply zCD); exact rfl) | ((with_reducible apply zCN); exact rfl) | ((with_reducible apply zC); exact rfl) | ((with_reducible refine zX ?_ ?_); exact rfl) | ((with_reducible refine zE (And.intro ?_ ?_)); exact kr) | (with_reducible refine zE ?_) | ((with_reducible apply zP); (first | exact o_indexF wd0 (j := k) (xs := st) wC_len (by decide) rfl rfl hlt hl.symm | exact o_indexF wd0 (j := j) (xs := st) wC_len (by decide) rfl rfl hjl hl.symm | exact o_indexI (xs := x) (j := j) rfl rfl hjl rfl | exact o_indexI (xs := x) (j := k) rfl rfl hlt rfl | exact dp | exact oc rfl (wa) | exact oc rfl (wb) | exact oc rfl (we))) | ((with_reducible apply zN); exact dn) | ((with_reducible apply zA); exact da) | ((with_reducible apply zS); exact ds) | ((with_reducible apply zY); exact rfl; exact rfl; exact tf) | ((with_reducible apply zG); exact rfl; exact rfl; exact tf) | ((with_reducible apply zU); exact rfl; exact rfl) | ((with_reducible apply zD); exact rfl; exact rfl) | ((with_reducible apply zB); exact rfl; exact rfl)))
      ((with_reducible first | apply q_retR | apply q_retN); exact rl)
      rfl
    · rw [he] at we
      have hall2 : ∀ i, i < k + 1 → eqW (byW (st.getD i wd0) (nth x j)) (byW (st.getD j wd0) (nth x i)) = true := fun i hi => by
        by_cases h : i = k
        · rw [h]; exact he
        · exact hall i (by omega)
      clear hall hno
      (repeat' (first | (with_reducible first | intro hg | refine mv (by constructor) ?_) | ((with_reducible first | refine zR ?_ ?_ | refine zW mixed ?_ ?_); exact kr) | ((with_reducible apply zK); exact rfl; exact tf) | ((with_reducible apply zCD); exact rfl) | ((with_reducible apply zCN); exact rfl) | ((with_reducible apply zC); exact rfl) | ((with_reducible refine zX ?_ ?_); exact rfl) | ((with_reducible refine zE (And.intro ?_ ?_)); exact kr) | (with_reducible refine zE ?_) | ((with_reducible apply zP); (first | exact o_indexF wd0 (j := k) (xs := st) wC_len (by decide) rfl rfl hlt hl.symm | exact o_indexF wd0 (j := j) (xs := st) wC_len (by decide) rfl rfl hjl hl.symm | exact o_indexI (xs := x) (j := j) rfl rfl hjl rfl | exact o_indexI (xs := x) (j := k) rfl rfl hlt rfl | exact dp | exact oc rfl (wa) | exact oc rfl (wb) | exact oc rfl (we))) | ((with_reducible apply zN); exact dn) | ((with_reducible apply zA); exact da) | ((with_reducible apply zS); exact ds) | ((with_reducible apply zY); exact rfl; exact rfl; exact tf) | ((with_reducible apply zG); exact rfl; exact rfl; exact tf) | ((with_reducible apply zU); exact rfl; exact rfl) | ((with_reducible apply zD); exact rfl; exact rfl) | ((with_reducible apply zB); exact rfl; exact rfl)))
      exact ⟨k + 1, ⟨hlt, hall2⟩, hm, (And.intro rfl (And.intro rfl (And.intro rfl (And.intro rfl (And.intro rfl (And.intro rfl (And.intro rfl trivial))))))), (And.intro rfl trivial)⟩
  obtain rfl : k = x.length := by omega
  obtain rfl := hyes hall
  clear hyes hall hno hx hk wix hlt hk1
  have hnn : nth x j * D ≠ 0 := Int.mul_ne_zero hjn (by omega)
  have hnb : (nth x j * D).natAbs ≤ 100 * 1000000000 := by
    rw [Int.natAbs_mul]; exact Nat.mul_le_mul hxj (by omega)
  have hwo := gwOf_A (nth x j * D) ⟨by omega, by omega⟩
  have hgp := gcW_pos (st.getD j wd0) hnn
  have hge := gcW_eq (st.getD j wd0) (nth x j * D)
  have hgl : gcW (st.getD j wd0) (nth x j * D) ≤ (nth x j * D).natAbs := by
    rw [hge]; exact Nat.gcd_le_right _ (by omega)
  have hgd : gcW (st.getD j wd0) (nth x j * D) = Nat.gcd (nth x j * D).natAbs ((st.getD j wd0).1 % (nth x j * D).natAbs) := rfl
  have hfc : fcW (st.getD j wd0) (nth x j * D) = bif decide ((st.getD j wd0).1 < (nth x j * D).natAbs) then ((0, 0), 19) else bif decide (1000000000 < (st.getD j wd0).1 / gcW (st.getD j wd0) (nth x j * D)) || decide (1000000000 < (nth x j * D).natAbs / gcW (st.getD j wd0) (nth x j * D)) then ((0, 0), 8) else (((bif (st.getD j wd0).2 != decide (nth x j * D < 0) then -(((st.getD j wd0).1 / gcW (st.getD j wd0) (nth x j * D) : Nat) : Int) else (((st.getD j wd0).1 / gcW (st.getD j wd0) (nth x j * D) : Nat) : Int)), (((nth x j * D).natAbs / gcW (st.getD j wd0) (nth x j * D) : Nat) : Int)), 0) := rfl
  rw [hfc]
  clear hfc hge
  obtain ⟨b, hb⟩ : ∃ b, b = (nth x j * D).natAbs := ⟨_, rfl⟩
  obtain ⟨g, hg⟩ : ∃ g, g = gcW (st.getD j wd0) (nth x j * D) := ⟨_, rfl⟩
  obtain ⟨X, hX⟩ : ∃ X, X = st.getD j wd0 := ⟨_, rfl⟩
  obtain ⟨sg, hsg⟩ : ∃ s, s = decide (nth x j * D < 0) := ⟨_, rfl⟩
  have hwo : AC Tryz.prog 39 [I (nth x j * D)] (.agg [U 0, U b, B sg]) := by
    have e1 : (ofW (nth x j * D)).1 / 18446744073709551616 = 0 := by show (nth x j * D).natAbs / _ = 0; omega
    have e2 : (ofW (nth x j * D)).1 % 18446744073709551616 = b := by show (nth x j * D).natAbs % _ = _; omega
    unfold WV at hwo
    rw [e1, e2, show (ofW (nth x j * D)).2 = sg from hsg.symm] at hwo
    exact hwo
  rw [← hg, ← hb, ← hX, ← hsg]
  rw [← hg] at hgp hgl hgd
  rw [← hb] at hgl hgd hnb
  rw [← hX] at hkj hgd
  have hls := isLess_A X (0 * 18446744073709551616 + b, sg)
  have hls : AC Tryz.prog 82 [WV X, .agg [U 0, U b, B sg]] (B (decide (X.1 < b))) := by
    have e1 : (0 * 18446744073709551616 + b) / 18446744073709551616 = 0 := by omega
    have e2 : (0 * 18446744073709551616 + b) % 18446744073709551616 = b := by omega
    have e3 : 0 * 18446744073709551616 + b = b := by omega
    unfold WV at hls
    show AC _ _ [.agg [_, _, _], _] _
    rw [show ((0 * 18446744073709551616 + b, sg) : Wd).1 = 0 * 18446744073709551616 + b from rfl, e1, e2, e3] at hls
    exact hls
  have hb0 : 0 < b := by omega
  have hbl : b < 18446744073709551616 := by omega
  have hbi : b ≤ 100000000000 := by omega
  have n1 : -9223372036854775808 ≤ nth x j * D := by omega
  have n2 : nth x j * D ≤ 9223372036854775807 := by omega
  have hXb : some (Blk.mk 87 (wC (st.getD j wd0))) = some ⟨87, wC X⟩ := by rw [hX]
  clear hnb hnn hg hb hsg hjn hxj
  (repeat' ((fail_if_success (with_reducible show AWp _ _ (.seq (.seq (.region 9 _ _) _) _) _ _)); (first | (with_reducible first | intro hg | refine mv (by constructor) ?_) | ((with_reducible first | refine zR ?_ ?_ | refine zW mixed ?_ ?_); exact kr) | ((with_reducible apply zK); exact rfl; exact tf) | ((with_reducible apply zCD); exact rfl) | ((with_reducible apply zCN); exact rfl) | ((with_reducible apply zC); exact rfl) | ((with_reducible refine zX ?_ ?_); exact rfl) | ((with_reducible refine zE (And.intro ?_ ?_)); exact kr) | (with_reducible refine zE ?_) | ((with_reducible apply zP); (first | exact o_indexF wd0 (j := j) (xs := st) wC_len (by decide) rfl rfl hjl hl.symm | exact o_indexI (xs := x) (j := j) rfl rfl hjl rfl | exact dp | exact oc rfl (hwo))) | ((with_reducible apply zN); exact dn) | ((with_reducible apply zA); exact da) | ((with_reducible apply zS); exact ds) | ((with_reducible apply zY); exact rfl; exact rfl; exact tf) | ((with_reducible apply zG); exact rfl; exact rfl; exact tf) | ((with_reducible apply zU); exact rfl; exact rfl) | ((with_reducible apply zD); exact rfl; exact rfl) | ((with_reducible apply zB); exact rfl; exact rfl))))
  refine awp_cut [(6, .ptr 6 0), (10, .ptr 10 0), (11, .ptr 11 0)] [(6, ⟨34, [I 0, I 0]⟩), (10, ⟨87, wC X⟩), (11, ⟨87, [U 0, U b, B sg]⟩)] (And.intro rfl (And.intro rfl (And.intro rfl trivial))) (And.intro rfl (And.intro (hXb) (And.intro (rfl) trivial))) ?_
  clear hX hXb hwo hl hjl n1 n2
  obtain ⟨m, s0⟩ := X
  have hkj : m ≤ 100000000000000000000000 := hkj
  have hgd : g = Nat.gcd b (m % b) := hgd
  show AWp _ _ _ (ARet _ _ (.tuple [F2 (bif decide (m < b) then ((0, 0), 19) else bif decide (1000000000 < m / g) || decide (1000000000 < b / g) then ((0, 0), 8) else (((bif s0 != sg then -((m / g : Nat) : Int) else ((m / g : Nat) : Int)), ((b / g : Nat) : Int)), 0) : Fr × Int).1, I (bif decide (m < b) then ((0, 0), 19) else bif decide (1000000000 < m / g) || decide (1000000000 < b / g) then ((0, 0), 8) else (((bif s0 != sg then -((m / g : Nat) : Int) else ((m / g : Nat) : Int)), ((b / g : Nat) : Int)), 0) : Fr × Int).2])) _
  have hls : AC Tryz.prog 82 [.agg [U (m / 18446744073709551616), U (m % 18446744073709551616), B s0], .agg [U 0, U b, B sg]] (B (decide (m < b))) := hls
  by_cases hlb : m < b
  · rw [decide_eq_true hlb] at hls ⊢
    (repeat' (first | (with_reducible first | intro hg | refine mv (by constructor) ?_) | ((with_reducible first | refine zR ?_ ?_ | refine zW mixed ?_ ?_); exact kr) | ((with_reducible apply zK); exact rfl; exact tf) | ((with_reducible apply zCD); exact rfl) | ((with_reducible apply zCN); exact rfl) | ((with_reducible apply zC); exact rfl) | ((with_reducible refine zX ?_ ?_); exact rfl) | ((with_reducible refine zE (And.intro ?_ ?_)); exact kr) | (with_reducible refine zE ?_) | ((with_reducible apply zP); (first | exact dp | exact oc rfl (hls))) | ((with_reducible apply zN); exact dn) | ((with_reducible apply zA); exact da) | ((with_reducible apply zS); exact ds) | ((with_reducible apply zY); exact rfl; exact rfl; exact tf) | ((with_reducible apply zG); exact rfl; exact rfl; exact tf) | ((with_reducible apply zU); exact rfl; exact rfl) | ((with_reducible apply zD); exact rfl; exact rfl) | ((with_reducible apply zB); exact rfl; exact rfl)))
    ((with_reducible first | apply q_retR | apply q_retN); exact rl)
    rfl
  rw [decide_eq_false hlb] at hls ⊢
  have ho1 : AC Tryz.prog 42 [.agg [U (m / 18446744073709551616), U (m % 18446744073709551616), B s0], U b] (.tuple [WV (ovW (m, s0) b), U (m % b)]) := over_A (m, s0) b hb0 hbl (by show m < _; omega)
  have ho2 : AC Tryz.prog 42 [.agg [U (m / 18446744073709551616), U (m % 18446744073709551616), B s0], U g] (.tuple [.agg [U (m / g / 18446744073709551616), U (m / g % 18446744073709551616), B s0], U (m % g)]) := over_A (m, s0) g hgp (by omega) (by show m < _; omega)
  have hr := Nat.mod_lt m hb0
  have hdv : AC Tryz.prog 88 [I b, I (m % b : Nat)] (I g) := by
    rw [hgd]
    exact divisor_A (b : Int) ((m % b : Nat) : Int) ⟨by omega, by omega⟩ ⟨by omega, by omega⟩
  have hbg : b / g ≤ b := Nat.div_le_self _ _
  clear hgd hlb
  generalize m / g = a at *
  generalize m % g = r2 at *
  generalize m % b = r1 at *
  generalize hq : b / g = q at *
  have hquo : ∀ {s : AS} {dst : Option Tmp} {ty : TypeId} {ps : String} {af : Array Edge} {t t' : TypeId} {x y : Operand}, s.ev x = .d (U b) → s.ev y = .d (U g) → ∀ (gd : Option (Nat × Bool)), Does Tryz.prog ⟨dst, .binOp .quo t x y t', ty, ps, af, gd⟩ s [] (.put (.d (U q))) := fun hx hy gd => by
    rw [← hq]; exact o_quoV hgp hbl hx hy gd
  clear hq
  by_cases h1 : a / 18446744073709551616 = 0
  rotate_left
  · rw [show (decide (1000000000 < a) || decide (1000000000 < q)) = true by rw [decide_eq_true (show 1000000000 < a by omega)]; rfl]
    (repeat' (first | (with_reducible first | intro hg | refine mv (by constructor) ?_) | ((with_reducible first | refine zR ?_ ?_ | refine zW mixed ?_ ?_); exact kr) | ((with_reducible apply zK); exact rfl; exact tf) | ((with_reducible apply zCD); exact rfl) | ((with_reducible apply zCN); exact rfl) | ((with_reducible apply zC); exact rfl) | ((with_reducible refine zX ?_ ?_); exact rfl) | ((with_reducible refine zE (And.intro ?_ ?_)); exact kr) | (with_reducible refine zE ?_) | ((with_reducible apply zP); (first | exact o_conv (k' := .i64) rfl (wr (by omega)) | exact o_conv (k' := .u64) rfl (wu (by omega)) | exact hquo rfl rfl | exact dp | exact oc rfl (hls) | exact oc rfl (ho1) | exact oc rfl (hdv) | exact oc rfl (ho2))) | ((with_reducible apply zN); exact dn) | ((with_reducible apply zA); exact da) | ((with_reducible apply zS); exact ds) | ((with_reducible apply zY); exact rfl; exact rfl; exact tf) | ((with_reducible apply zG); exact rfl; exact rfl; exact tf) | ((with_reducible apply zU); exact rfl; exact rfl) | ((with_reducible apply zD); exact rfl; exact rfl) | ((with_reducible apply zB); exact rfl; exact rfl)))
    ((with_reducible first | apply q_retR | apply q_retN); exact rl)
    rfl
  have e2 : a % 18446744073709551616 = a := by omega
  rw [h1, e2] at ho2
  clear h1
  by_cases h2 : 1000000000 < a
  · rw [decide_eq_true h2]
    (repeat' (first | (with_reducible first | intro hg | refine mv (by constructor) ?_) | ((with_reducible first | refine zR ?_ ?_ | refine zW mixed ?_ ?_); exact kr) | ((with_reducible apply zK); exact rfl; exact tf) | ((with_reducible apply zCD); exact rfl) | ((with_reducible apply zCN); exact rfl) | ((with_reducible apply zC); exact rfl) | ((with_reducible refine zX ?_ ?_); exact rfl) | ((with_reducible refine zE (And.intro ?_ ?_)); exact kr) | (with_reducible refine zE ?_) | ((with_reducible apply zP); (first | exact o_conv (k' := .i64) rfl (wr (by omega)) | exact o_conv (k' := .u64) rfl (wu (by omega)) | exact hquo rfl rfl | exact dp | exact oc rfl (hls) | exact oc rfl (ho1) | exact oc rfl (hdv) | exact oc rfl (ho2))) | ((with_reducible apply zN); exact dn) | ((with_reducible apply zA); exact da) | ((with_reducible apply zS); exact ds) | ((with_reducible apply zY); exact rfl; exact rfl; exact tf) | ((with_reducible apply zG); exact rfl; exact rfl; exact tf) | ((with_reducible apply zU); exact rfl; exact rfl) | ((with_reducible apply zD); exact rfl; exact rfl) | ((with_reducible apply zB); exact rfl; exact rfl)))
    ((with_reducible first | apply q_retR | apply q_retN); exact rl)
    rfl
  rw [decide_eq_false h2]
  by_cases h3 : 1000000000 < q
  · rw [decide_eq_true h3]
    (repeat' (first | (with_reducible first | intro hg | refine mv (by constructor) ?_) | ((with_reducible first | refine zR ?_ ?_ | refine zW mixed ?_ ?_); exact kr) | ((with_reducible apply zK); exact rfl; exact tf) | ((with_reducible apply zCD); exact rfl) | ((with_reducible apply zCN); exact rfl) | ((with_reducible apply zC); exact rfl) | ((with_reducible refine zX ?_ ?_); exact rfl) | ((with_reducible refine zE (And.intro ?_ ?_)); exact kr) | (with_reducible refine zE ?_) | ((with_reducible apply zP); (first | exact o_conv (k' := .i64) rfl (wr (by omega)) | exact o_conv (k' := .u64) rfl (wu (by omega)) | exact hquo rfl rfl | exact dp | exact oc rfl (hls) | exact oc rfl (ho1) | exact oc rfl (hdv) | exact oc rfl (ho2))) | ((with_reducible apply zN); exact dn) | ((with_reducible apply zA); exact da) | ((with_reducible apply zS); exact ds) | ((with_reducible apply zY); exact rfl; exact rfl; exact tf) | ((with_reducible apply zG); exact rfl; exact rfl; exact tf) | ((with_reducible apply zU); exact rfl; exact rfl) | ((with_reducible apply zD); exact rfl; exact rfl) | ((with_reducible apply zB); exact rfl; exact rfl)))
    ((with_reducible first | apply q_retR | apply q_retN); exact rl)
    rfl
  rw [decide_eq_false h3]
  cases s0 <;> cases sg
  all_goals
    (repeat' (first | (with_reducible first | intro hg | refine mv (by constructor) ?_) | ((with_reducible first | refine zR ?_ ?_ | refine zW mixed ?_ ?_); exact kr) | ((with_reducible apply zK); exact rfl; exact tf) | ((with_reducible apply zCD); exact rfl) | ((with_reducible apply zCN); exact rfl) | ((with_reducible apply zC); exact rfl) | ((with_reducible refine zX ?_ ?_); exact rfl) | ((with_reducible refine zE (And.intro ?_ ?_)); exact kr) | (with_reducible refine zE ?_) | ((with_reducible apply zP); (first | exact o_conv (k' := .i64) rfl (wr (by omega)) | exact o_conv (k' := .u64) rfl (wu (by omega)) | exact hquo rfl rfl | exact o_neqB rfl rfl | exact dp | exact oc rfl (hls) | exact oc rfl (ho1) | exact oc rfl (hdv) | exact oc rfl (ho2))) | ((with_reducible apply zN); exact dn) | ((with_reducible apply zA); exact da) | ((with_reducible apply zS); exact ds) | ((with_reducible apply zY); exact rfl; exact rfl; exact tf) | ((with_reducible apply zG); exact rfl; exact rfl; exact tf) | ((with_reducible apply zU); exact rfl; exact rfl) | ((with_reducible apply zD); exact rfl; exact rfl) | ((with_reducible apply zB); exact rfl; exact rfl)))
    ((with_reducible first | apply q_retR | apply q_retN); exact rl)
    rfl

end Go.Proofs.YtfcfmpdpjmbcnaaGreat
