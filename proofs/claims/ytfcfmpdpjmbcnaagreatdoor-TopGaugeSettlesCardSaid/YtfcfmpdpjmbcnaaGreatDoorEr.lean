/- Merged: XDp XDq XDr. -/
import Derived.Test.YtfcfmpdpjmbcnaaGreatDoorDn
import Derived.Test.YtfcfmpdpjmbcnaaGreatDoorEm
import Derived.Test.YtfcfmpdpjmbcnaaGreatDoorEk
import Derived.Test.YtfcfmpdpjmbcnaaGreatDoorSe
set_option linter.unusedVariables false
set_option linter.unusedSimpArgs false
/- Wide numbers (chapter 5): quotients. -/
namespace Go.Proofs.YtfcfmpdpjmbcnaaGreatDoor
open Go.RowKit
set_option maxRecDepth 20000
set_option maxHeartbeats 8000000

theorem dsplit {A B C : Nat} (h : A = B * 18446744073709551616 + C) (hC : C < 18446744073709551616) : A / 18446744073709551616 = B ∧ A % 18446744073709551616 = C := by omega
theorem over_A (w : Wd) (n : Nat) (h0 : 0 < n) (hn : n < 18446744073709551616) (hw : w.1 < 340282366920938463463374607431768211456) : AC Tryz.prog 74 [WV w, U n] (.tuple [WV (ovW w n), U (w.1 % n)]) := by
  obtain ⟨hi, hhi⟩ : ∃ a, a = w.1 / 18446744073709551616 := ⟨_, rfl⟩
  obtain ⟨lo, hlo⟩ : ∃ a, a = w.1 % 18446744073709551616 := ⟨_, rfl⟩
  have e : w.1 = hi * 18446744073709551616 + lo := by omega
  have b := dv_half hi n 18446744073709551616 lo h0 (by omega)
  obtain ⟨t1, t2⟩ := dv_two hi n 18446744073709551616 lo h0
  have hdv := div64_A (hi % n) lo n (Nat.mod_lt _ h0) (by omega) hn
  rw [← e] at t1 t2
  obtain ⟨d1, d2⟩ := dsplit t1 b
  show AC _ _ [.agg [U (w.1 / 18446744073709551616), U (w.1 % 18446744073709551616), B w.2], U n] (.tuple [.agg [U (w.1 / n / 18446744073709551616), U (w.1 / n % 18446744073709551616), B w.2], U (w.1 % n)])
  rw [d1, d2, t2, ← hhi, ← hlo]
  have hhl : hi < 18446744073709551616 := by omega
  clear d1 d2 t1 t2 e b hw hhi hlo
  refine ac_body Tryz.func74 rfl (by kernel_rfl) fun w0 ok => ?_; show AWp _ (ctx0 w0 ok _) _ (ARet _ _ _) (entry _)
  (repeat' (first | (with_reducible first | intro hg | refine mv (by constructor) ?_) | ((with_reducible first | refine zR ?_ ?_ | refine zW mixed ?_ ?_); exact kr) | ((with_reducible apply zK); exact rfl; exact tf) | ((with_reducible apply zCD); exact rfl) | ((with_reducible apply zCN); exact rfl) | ((with_reducible apply zC); exact rfl) | ((with_reducible refine zX ?_ ?_); exact rfl) | ((with_reducible refine zE (And.intro ?_ ?_)); exact kr) | (with_reducible refine zE ?_) | ((with_reducible apply zP); (first | exact o_quoV h0 hhl rfl rfl | exact o_remV h0 rfl rfl | exact dp | exact oc rfl (hdv))) | ((with_reducible apply zN); exact dn) | ((with_reducible apply zA); exact da) | ((with_reducible apply zS); exact ds) | ((with_reducible apply zY); exact rfl; exact rfl; exact tf) | ((with_reducible apply zG); exact rfl; exact rfl; exact tf) | ((with_reducible apply zU); exact rfl; exact rfl) | ((with_reducible apply zD); exact rfl; exact rfl) | ((with_reducible apply zB); exact rfl; exact rfl)))
  ((with_reducible first | apply q_retR | apply q_retN); exact rl)
  rfl

end Go.Proofs.YtfcfmpdpjmbcnaaGreatDoor

/- The factor of a growth, by the package (chapter 5). -/
namespace Go.Proofs.YtfcfmpdpjmbcnaaGreatDoor
open Go.RowKit
set_option maxRecDepth 20000
set_option maxHeartbeats 8000000

abbrev wC (w : Wd) : List DV := [U (w.1 / 18446744073709551616), U (w.1 % 18446744073709551616), B w.2]
abbrev wS (l : List Wd) : List DV := (l.map wC).flatten
theorem wC_len (w : Wd) : (wC w).length = 3 := rfl
theorem wS_len (l : List Wd) : (wS l).length = l.length * 3 := flat_len wC 3 wC_len l
theorem idxF_ok (p : Int → Bool) : ∀ (xs : List Int) (k : Nat), xs.any p = true → ∃ j : Nat, idxF p xs k = ((k + j : Nat) : Int) ∧ j < xs.length ∧ p (nth xs j) = true
  | [], k, h => by cases h
  | x :: l, k, h => by
    cases hx : p x
    · rw [List.any_cons, hx, Bool.false_or] at h
      obtain ⟨j, h1, h2, h3⟩ := idxF_ok p l (k + 1) h
      refine ⟨j + 1, ?_, Nat.succ_lt_succ h2, h3⟩
      show (bif p x then (k : Int) else idxF p l (k + 1)) = _
      rw [hx]
      show idxF p l (k + 1) = _
      rw [h1]
      congr 1
      omega
    · refine ⟨0, ?_, Nat.zero_lt_succ _, hx⟩
      show (bif p x then (k : Int) else idxF p l (k + 1)) = _
      rw [hx]; rfl
theorem nz_ok {x : List Int} (h : x.any (fun n => decide (n ≠ 0)) = true) : idxF (fun n => decide (n ≠ 0)) x 0 = ((nzAt x : Nat) : Int) ∧ nzAt x < x.length ∧ nth x (nzAt x) ≠ 0 := by
  obtain ⟨j, h1, h2, h3⟩ := idxF_ok _ x 0 h
  rw [Nat.zero_add] at h1
  have e : nzAt x = j := by unfold nzAt; rw [h1]; exact Int.toNat_natCast j
  rw [e]
  exact ⟨h1, h2, by simpa using h3⟩
theorem gwW_no {st : List Wd} {x : List Int} {D : Int} {i : Nat} (hi : i < x.length) (h : eqW (byW (st.getD i wd0) (nth x (nzAt x))) (byW (st.getD (nzAt x) wd0) (nth x i)) = false) : gwW st x D = ((0, 0), 19) := by
  unfold gwW
  rw [show (List.range x.length).all (fun i => eqW (byW (st.getD i wd0) (nth x (nzAt x))) (byW (st.getD (nzAt x) wd0) (nth x i))) = false from ?_]
  · rfl
  · rw [List.all_eq_false]
    exact ⟨i, List.mem_range.2 hi, by rw [h]; decide⟩
theorem gwW_yes {st : List Wd} {x : List Int} {D : Int} (h : ∀ i, i < x.length → eqW (byW (st.getD i wd0) (nth x (nzAt x))) (byW (st.getD (nzAt x) wd0) (nth x i)) = true) : gwW st x D = fcW (st.getD (nzAt x) wd0) (nth x (nzAt x) * D) := by
  unfold gwW
  rw [show (List.range x.length).all (fun i => eqW (byW (st.getD i wd0) (nth x (nzAt x))) (byW (st.getD (nzAt x) wd0) (nth x i))) = true from List.all_eq_true.2 fun i hi => h i (List.mem_range.1 hi)]
  rfl
theorem fac1_A (n : Int) : AC Tryz.prog 121 ([I n] ++ []) (B (decide (n ≠ 0))) := by
  refine ac_body Tryz.func121 rfl (by kernel_rfl) fun w0 ok => ?_; show AWp _ (ctx0 w0 ok _) _ (ARet _ _ _) (entry _)
  exact zF
theorem factor_A (st : List Wd) (x : List Int) (D : Int) (hl : st.length = x.length) (hL : x.length ≤ 1000) (hx : ∀ i, (nth x i).natAbs ≤ 100) (hk : ∀ i, (st.getD i wd0).1 ≤ 100000000000000000000000) (hD : 1 ≤ D ∧ D ≤ 1000000000) (ha : x.any (fun n => decide (n ≠ 0)) = true) :
    AC Tryz.prog 75 [.slice x.length (wS st), isl x, I D] (.tuple [F2 (gwW st x D).1, I (gwW st x D).2]) := by
  obtain ⟨h1, hjl, hjn⟩ := nz_ok ha
  have wix := indexFunc_A 121 (EntI.eq (P := Tryz.prog) (f := 121)) .val (fun n => decide (n ≠ 0)) x (by omega) (fun n _ => fac1_A n)
  rw [h1] at wix
  have hno := fun i (hi : i < x.length) => @gwW_no st x D i hi
  have hyes := @gwW_yes st x D
  generalize gwW st x D = Rr at *
  generalize nzAt x = j at *
  have hxj := hx j
  have hkj := hk j
  clear h1 ha
  refine ac_body Tryz.func75 rfl (by kernel_rfl) fun w0 ok => ?_; show AWp _ (ctx0 w0 ok _) _ (ARet _ _ _) (entry _)
  (repeat' (first | (with_reducible first | intro hg | refine mv (by constructor) ?_) | ((with_reducible first | refine zR ?_ ?_ | refine zW mixed ?_ ?_); exact kr) | ((with_reducible apply zK); exact rfl; exact tf) | ((with_reducible apply zCD); exact rfl) | ((with_reducible apply zCN); exact rfl) | ((with_reducible apply zC); exact rfl) | ((with_reducible refine zX ?_ ?_); exact rfl) | ((with_reducible refine zE (And.intro ?_ ?_)); exact kr) | (with_reducible refine zE ?_) | ((with_reducible apply zP); (first | exact dp | exact oc rfl (wix))) | ((with_reducible apply zN); exact dn) | ((with_reducible apply zA); exact da) | ((with_reducible apply zS); exact ds) | ((with_reducible apply zY); exact rfl; exact rfl; exact tf) | ((with_reducible apply zG); exact rfl; exact rfl; exact tf) | ((with_reducible apply zU); exact rfl; exact rfl) | ((with_reducible apply zD); exact rfl; exact rfl) | ((with_reducible apply zB); exact rfl; exact rfl)))
  refine awp_loopL (α := Nat) (fun k => [(0, .d (.slice x.length (wS st))), (1, .d (isl x)), (2, .d (I D)), (6, .ptr 6 0), (8, .d (I j)), (19, .d (I x.length)), (20, .d (I k))]) (fun _ => [(6, ⟨47, [I 0, I 0]⟩)]) (fun k => k ≤ x.length ∧ ∀ i, i < k → eqW (byW (st.getD i wd0) (nth x j)) (byW (st.getD j wd0) (nth x i)) = true) (fun k => x.length - k) 0 ⟨Nat.zero_le _, fun i hi => absurd hi (by omega)⟩ (And.intro rfl (And.intro rfl (And.intro rfl (And.intro rfl (And.intro rfl (And.intro rfl (And.intro rfl trivial))))))) (And.intro rfl trivial) fun k ⟨hk1, hall⟩ => ?_
  by_cases hlt : k < x.length
  · have hxk := hx k
    have hkk := hk k
    have hno := hno k hlt
    have p1 : (st.getD k wd0).1 * (nth x j).natAbs ≤ 100000000000000000000000 * 100 := Nat.mul_le_mul hkk hxj
    have p2 : (st.getD j wd0).1 * (nth x k).natAbs ≤ 100000000000000000000000 * 100 := Nat.mul_le_mul hkj hxk
    have wa := by_A (st.getD k wd0) (nth x j) ⟨by omega, by omega⟩ (by omega)
    have wb := by_A (st.getD j wd0) (nth x k) ⟨by omega, by omega⟩ (by omega)
    have we := equals_A (byW (st.getD k wd0) (nth x j)) (byW (st.getD j wd0) (nth x k))
    have hm : x.length - (k + 1) < x.length - k := by omega
    clear p1 p2 hx hk hyes wix hxk hkk hxj hkj hD
    cases he : eqW (byW (st.getD k wd0) (nth x j)) (byW (st.getD j wd0) (nth x k))
    · obtain rfl := hno he
      rw [he] at we
      clear hall
      (repeat' (first | (with_reducible first | intro hg | refine mv (by constructor) ?_) | ((with_reducible first | refine zR ?_ ?_ | refine zW mixed ?_ ?_); exact kr) | ((with_reducible apply zK); exact rfl; exact tf) | ((with_reducible apply zCD); exact rfl) | ((with_reducible apply zCN); exact rfl) | ((with_reducible apply zC); exact rfl) | ((with_reducible refine zX ?_ ?_); exact rfl) | ((with_reducible refine zE (And.intro ?_ ?_)); exact kr) | (with_reducible refine zE ?_) | ((with_reducible apply zP); (first | exact o_indexF wd0 (j := k) (xs := st) wC_len (by decide) rfl rfl hlt hl.symm | exact o_indexF wd0 (j := j) (xs := st) wC_len (by decide) rfl rfl hjl hl.symm | exact o_indexI (xs := x) (j := j) rfl rfl hjl rfl | exact o_indexI (xs := x) (j := k) rfl rfl hlt rfl | exact dp | exact oc rfl (wa) | exact oc rfl (wb) | exact oc rfl (we))) | ((with_reducible apply zN); exact dn) | ((with_reducible apply zA); exact da) | ((with_reducible apply zS); exact ds) | ((with_reducible apply zY); exact rfl; exact rfl; exact tf) | ((with_reducible apply zG); exact rfl; exact rfl; exact tf) | ((with_reducible apply zU); exact rfl; exact rfl) | ((with_reducible apply zD); exact rfl; exact rfl) | ((with_reducible apply zB); exact rfl; exact rfl)))
      ((with_reducible first | apply q_retR | apply q_retN); exact rl)
      rfl
    · rw [he] at we
      have hall2 : ∀ i, i < k + 1 → eqW (byW (st.getD i wd0) (nth x j)) (byW (st.getD j wd0) (nth x i)) = true := fun i hi => by
        by_cases h : i = k
        · rw [h]; exact he
        · exact hall i (by omega)
      clear hall hno
      (repeat' (first | (with_reducible first | intro hg | refine mv (by constructor) ?_) | ((with_reducible first | refine zR ?_ ?_ | refine zW mixed ?_ ?_); exact kr) | ((with_reducible apply zK); exact rfl; exact tf) | ((with_reducible apply zCD); exact rfl) | ((with_reducible apply zCN); exact rfl) | ((with_reducible apply zC); exact rfl) | ((with_reducible refine zX ?_ ?_); exact rfl) | ((with_reducible refine zE (And.intro ?_ ?_)); exact kr) | (with_reducible refine zE ?_) | ((with_reducible apply zP); (first | exact o_indexF wd0 (j := k) (xs := st) wC_len (by decide) rfl rfl hlt hl.symm | exact o_indexF wd0 (j := j) (xs := st) wC_len (by decide) rfl rfl hjl hl.symm | exact o_indexI (xs := x) (j := j) rfl rfl hjl rfl | exact o_indexI (xs := x) (j := k) rfl rfl hlt rfl | exact dp | exact oc rfl (wa) | exact oc rfl (wb) | exact oc rfl (we))) | ((with_reducible apply zN); exact dn) | ((with_reducible apply zA); exact da) | ((with_reducible apply zS); exact ds) | ((with_reducible apply zY); exact rfl; exact rfl; exact tf) | ((with_reducible apply zG); exact rfl; exact rfl; exact tf) | ((with_reducible apply zU); exact rfl; exact rfl) | ((with_reducible apply zD); exact rfl; exact rfl) | ((with_reducible apply zB); exact rfl; exact rfl)))
      exact ⟨k + 1, ⟨hlt, hall2⟩, hm, (And.intro rfl (And.intro rfl (And.intro rfl (And.intro rfl (And.intro rfl (And.intro rfl (And.intro rfl trivial))))))), (And.intro rfl trivial)⟩
  obtain rfl : k = x.length := by omega
  obtain rfl := hyes hall
  clear hyes hall hno hx hk wix hlt hk1
  have hnn : nth x j * D ≠ 0 := Int.mul_ne_zero hjn (by omega)
  have hnb : (nth x j * D).natAbs ≤ 100 * 1000000000 := by
    rw [Int.natAbs_mul]; exact Nat.mul_le_mul hxj (by omega)
  have hwo := gwOf_A (nth x j * D) ⟨by omega, by omega⟩
  have hgp := gcW_pos (st.getD j wd0) hnn
  have hge := gcW_eq (st.getD j wd0) (nth x j * D)
  have hgl : gcW (st.getD j wd0) (nth x j * D) ≤ (nth x j * D).natAbs := by
    rw [hge]; exact Nat.gcd_le_right _ (by omega)
  have hgd : gcW (st.getD j wd0) (nth x j * D) = Nat.gcd (nth x j * D).natAbs ((st.getD j wd0).1 % (nth x j * D).natAbs) := rfl
  have hfc : fcW (st.getD j wd0) (nth x j * D) = bif decide ((st.getD j wd0).1 < (nth x j * D).natAbs) then ((0, 0), 19) else bif decide (1000000000 < (st.getD j wd0).1 / gcW (st.getD j wd0) (nth x j * D)) || decide (1000000000 < (nth x j * D).natAbs / gcW (st.getD j wd0) (nth x j * D)) then ((0, 0), 8) else (((bif (st.getD j wd0).2 != decide (nth x j * D < 0) then -(((st.getD j wd0).1 / gcW (st.getD j wd0) (nth x j * D) : Nat) : Int) else (((st.getD j wd0).1 / gcW (st.getD j wd0) (nth x j * D) : Nat) : Int)), (((nth x j * D).natAbs / gcW (st.getD j wd0) (nth x j * D) : Nat) : Int)), 0) := rfl
  rw [hfc]
  clear hfc hge
  obtain ⟨b, hb⟩ : ∃ b, b = (nth x j * D).natAbs := ⟨_, rfl⟩
  obtain ⟨g, hg⟩ : ∃ g, g = gcW (st.getD j wd0) (nth x j * D) := ⟨_, rfl⟩
  obtain ⟨X, hX⟩ : ∃ X, X = st.getD j wd0 := ⟨_, rfl⟩
  obtain ⟨sg, hsg⟩ : ∃ s, s = decide (nth x j * D < 0) := ⟨_, rfl⟩
  have hwo : AC Tryz.prog 71 [I (nth x j * D)] (.agg [U 0, U b, B sg]) := by
    have e1 : (ofW (nth x j * D)).1 / 18446744073709551616 = 0 := by show (nth x j * D).natAbs / _ = 0; omega
    have e2 : (ofW (nth x j * D)).1 % 18446744073709551616 = b := by show (nth x j * D).natAbs % _ = _; omega
    unfold WV at hwo
    rw [e1, e2, show (ofW (nth x j * D)).2 = sg from hsg.symm] at hwo
    exact hwo
  rw [← hg, ← hb, ← hX, ← hsg]
  rw [← hg] at hgp hgl hgd
  rw [← hb] at hgl hgd hnb
  rw [← hX] at hkj hgd
  have hls := isLess_A X (0 * 18446744073709551616 + b, sg)
  have hls : AC Tryz.prog 117 [WV X, .agg [U 0, U b, B sg]] (B (decide (X.1 < b))) := by
    have e1 : (0 * 18446744073709551616 + b) / 18446744073709551616 = 0 := by omega
    have e2 : (0 * 18446744073709551616 + b) % 18446744073709551616 = b := by omega
    have e3 : 0 * 18446744073709551616 + b = b := by omega
    unfold WV at hls
    show AC _ _ [.agg [_, _, _], _] _
    rw [show ((0 * 18446744073709551616 + b, sg) : Wd).1 = 0 * 18446744073709551616 + b from rfl, e1, e2, e3] at hls
    exact hls
  have hb0 : 0 < b := by omega
  have hbl : b < 18446744073709551616 := by omega
  have hbi : b ≤ 100000000000 := by omega
  have n1 : -9223372036854775808 ≤ nth x j * D := by omega
  have n2 : nth x j * D ≤ 9223372036854775807 := by omega
  have hXb : some (Blk.mk 118 (wC (st.getD j wd0))) = some ⟨118, wC X⟩ := by rw [hX]
  clear hnb hnn hg hb hsg hjn hxj
  (repeat' ((fail_if_success (with_reducible show AWp _ _ (.seq (.seq (.region 9 _ _) _) _) _ _)); (first | (with_reducible first | intro hg | refine mv (by constructor) ?_) | ((with_reducible first | refine zR ?_ ?_ | refine zW mixed ?_ ?_); exact kr) | ((with_reducible apply zK); exact rfl; exact tf) | ((with_reducible apply zCD); exact rfl) | ((with_reducible apply zCN); exact rfl) | ((with_reducible apply zC); exact rfl) | ((with_reducible refine zX ?_ ?_); exact rfl) | ((with_reducible refine zE (And.intro ?_ ?_)); exact kr) | (with_reducible refine zE ?_) | ((with_reducible apply zP); (first | exact o_indexF wd0 (j := j) (xs := st) wC_len (by decide) rfl rfl hjl hl.symm | exact o_indexI (xs := x) (j := j) rfl rfl hjl rfl | exact dp | exact oc rfl (hwo))) | ((with_reducible apply zN); exact dn) | ((with_reducible apply zA); exact da) | ((with_reducible apply zS); exact ds) | ((with_reducible apply zY); exact rfl; exact rfl; exact tf) | ((with_reducible apply zG); exact rfl; exact rfl; exact tf) | ((with_reducible apply zU); exact rfl; exact rfl) | ((with_reducible apply zD); exact rfl; exact rfl) | ((with_reducible apply zB); exact rfl; exact rfl))))
  refine awp_cut [(6, .ptr 6 0), (10, .ptr 10 0), (11, .ptr 11 0)] [(6, ⟨47, [I 0, I 0]⟩), (10, ⟨118, wC X⟩), (11, ⟨118, [U 0, U b, B sg]⟩)] (And.intro rfl (And.intro rfl (And.intro rfl trivial))) (And.intro rfl (And.intro (hXb) (And.intro (rfl) trivial))) ?_
  clear hX hXb hwo hl hjl n1 n2
  obtain ⟨m, s0⟩ := X
  have hkj : m ≤ 100000000000000000000000 := hkj
  have hgd : g = Nat.gcd b (m % b) := hgd
  show AWp _ _ _ (ARet _ _ (.tuple [F2 (bif decide (m < b) then ((0, 0), 19) else bif decide (1000000000 < m / g) || decide (1000000000 < b / g) then ((0, 0), 8) else (((bif s0 != sg then -((m / g : Nat) : Int) else ((m / g : Nat) : Int)), ((b / g : Nat) : Int)), 0) : Fr × Int).1, I (bif decide (m < b) then ((0, 0), 19) else bif decide (1000000000 < m / g) || decide (1000000000 < b / g) then ((0, 0), 8) else (((bif s0 != sg then -((m / g : Nat) : Int) else ((m / g : Nat) : Int)), ((b / g : Nat) : Int)), 0) : Fr × Int).2])) _
  have hls : AC Tryz.prog 117 [.agg [U (m / 18446744073709551616), U (m % 18446744073709551616), B s0], .agg [U 0, U b, B sg]] (B (decide (m < b))) := hls
  by_cases hlb : m < b
  · rw [decide_eq_true hlb] at hls ⊢
    exact zF
  rw [decide_eq_false hlb] at hls ⊢
  have ho1 : AC Tryz.prog 74 [.agg [U (m / 18446744073709551616), U (m % 18446744073709551616), B s0], U b] (.tuple [WV (ovW (m, s0) b), U (m % b)]) := over_A (m, s0) b hb0 hbl (by show m < _; omega)
  have ho2 : AC Tryz.prog 74 [.agg [U (m / 18446744073709551616), U (m % 18446744073709551616), B s0], U g] (.tuple [.agg [U (m / g / 18446744073709551616), U (m / g % 18446744073709551616), B s0], U (m % g)]) := over_A (m, s0) g hgp (by omega) (by show m < _; omega)
  have hr := Nat.mod_lt m hb0
  have hdv : AC Tryz.prog 123 [I b, I (m % b : Nat)] (I g) := by
    rw [hgd]
    exact divisor_A (b : Int) ((m % b : Nat) : Int) ⟨by omega, by omega⟩ ⟨by omega, by omega⟩
  have hbg : b / g ≤ b := Nat.div_le_self _ _
  clear hgd hlb
  generalize m / g = a at *
  generalize m % g = r2 at *
  generalize m % b = r1 at *
  generalize hq : b / g = q at *
  have hquo : ∀ {s : AS} {dst : Option Tmp} {ty : TypeId} {ps : String} {af : Array Edge} {t t' : TypeId} {x y : Operand}, s.ev x = .d (U b) → s.ev y = .d (U g) → ∀ (gd : Option (Nat × Bool)), Does Tryz.prog ⟨dst, .binOp .quo t x y t', ty, ps, af, gd⟩ s [] (.put (.d (U q))) := fun hx hy gd => by
    rw [← hq]; exact o_quoV hgp hbl hx hy gd
  clear hq
  by_cases h1 : a / 18446744073709551616 = 0
  rotate_left
  · rw [show (decide (1000000000 < a) || decide (1000000000 < q)) = true by rw [decide_eq_true (show 1000000000 < a by omega)]; rfl]
    (repeat' (first | (with_reducible first | intro hg | refine mv (by constructor) ?_) | ((with_reducible first | refine zR ?_ ?_ | refine zW mixed ?_ ?_); exact kr) | ((with_reducible apply zK); exact rfl; exact tf) | ((with_reducible apply zCD); exact rfl) | ((with_reducible apply zCN); exact rfl) | ((with_reducible apply zC); exact rfl) | ((with_reducible refine zX ?_ ?_); exact rfl) | ((with_reducible refine zE (And.intro ?_ ?_)); exact kr) | (with_reducible refine zE ?_) | ((with_reducible apply zP); (first | exact o_conv (k' := .i64) rfl (wr (by omega)) | exact o_conv (k' := .u64) rfl (wu (by omega)) | exact hquo rfl rfl | exact dp | exact oc rfl (hls) | exact oc rfl (ho1) | exact oc rfl (hdv) | exact oc rfl (ho2))) | ((with_reducible apply zN); exact dn) | ((with_reducible apply zA); exact da) | ((with_reducible apply zS); exact ds) | ((with_reducible apply zY); exact rfl; exact rfl; exact tf) | ((with_reducible apply zG); exact rfl; exact rfl; exact tf) | ((with_reducible apply zU); exact rfl; exact rfl) | ((with_reducible apply zD); exact rfl; exact rfl) | ((with_reducible apply zB); exact rfl; exact rfl)))
    ((with_reducible first | apply q_retR | apply q_retN); exact rl)
    rfl
  have e2 : a % 18446744073709551616 = a := by omega
  rw [h1, e2] at ho2
  clear h1
  by_cases h2 : 1000000000 < a
  · rw [decide_eq_true h2]
    (repeat' (first | (with_reducible first | intro hg | refine mv (by constructor) ?_) | ((with_reducible first | refine zR ?_ ?_ | refine zW mixed ?_ ?_); exact kr) | ((with_reducible apply zK); exact rfl; exact tf) | ((with_reducible apply zCD); exact rfl) | ((with_reducible apply zCN); exact rfl) | ((with_reducible apply zC); exact rfl) | ((with_reducible refine zX ?_ ?_); exact rfl) | ((with_reducible refine zE (And.intro ?_ ?_)); exact kr) | (with_reducible refine zE ?_) | ((with_reducible apply zP); (first | exact o_conv (k' := .i64) rfl (wr (by omega)) | exact o_conv (k' := .u64) rfl (wu (by omega)) | exact hquo rfl rfl | exact dp | exact oc rfl (hls) | exact oc rfl (ho1) | exact oc rfl (hdv) | exact oc rfl (ho2))) | ((with_reducible apply zN); exact dn) | ((with_reducible apply zA); exact da) | ((with_reducible apply zS); exact ds) | ((with_reducible apply zY); exact rfl; exact rfl; exact tf) | ((with_reducible apply zG); exact rfl; exact rfl; exact tf) | ((with_reducible apply zU); exact rfl; exact rfl) | ((with_reducible apply zD); exact rfl; exact rfl) | ((with_reducible apply zB); exact rfl; exact rfl)))
    ((with_reducible first | apply q_retR | apply q_retN); exact rl)
    rfl
  rw [decide_eq_false h2]
  by_cases h3 : 1000000000 < q
  · rw [decide_eq_true h3]
    (repeat' (first | (with_reducible first | intro hg | refine mv (by constructor) ?_) | ((with_reducible first | refine zR ?_ ?_ | refine zW mixed ?_ ?_); exact kr) | ((with_reducible apply zK); exact rfl; exact tf) | ((with_reducible apply zCD); exact rfl) | ((with_reducible apply zCN); exact rfl) | ((with_reducible apply zC); exact rfl) | ((with_reducible refine zX ?_ ?_); exact rfl) | ((with_reducible refine zE (And.intro ?_ ?_)); exact kr) | (with_reducible refine zE ?_) | ((with_reducible apply zP); (first | exact o_conv (k' := .i64) rfl (wr (by omega)) | exact o_conv (k' := .u64) rfl (wu (by omega)) | exact hquo rfl rfl | exact dp | exact oc rfl (hls) | exact oc rfl (ho1) | exact oc rfl (hdv) | exact oc rfl (ho2))) | ((with_reducible apply zN); exact dn) | ((with_reducible apply zA); exact da) | ((with_reducible apply zS); exact ds) | ((with_reducible apply zY); exact rfl; exact rfl; exact tf) | ((with_reducible apply zG); exact rfl; exact rfl; exact tf) | ((with_reducible apply zU); exact rfl; exact rfl) | ((with_reducible apply zD); exact rfl; exact rfl) | ((with_reducible apply zB); exact rfl; exact rfl)))
    ((with_reducible first | apply q_retR | apply q_retN); exact rl)
    rfl
  rw [decide_eq_false h3]
  cases s0 <;> cases sg
  all_goals
    (repeat' (first | (with_reducible first | intro hg | refine mv (by constructor) ?_) | ((with_reducible first | refine zR ?_ ?_ | refine zW mixed ?_ ?_); exact kr) | ((with_reducible apply zK); exact rfl; exact tf) | ((with_reducible apply zCD); exact rfl) | ((with_reducible apply zCN); exact rfl) | ((with_reducible apply zC); exact rfl) | ((with_reducible refine zX ?_ ?_); exact rfl) | ((with_reducible refine zE (And.intro ?_ ?_)); exact kr) | (with_reducible refine zE ?_) | ((with_reducible apply zP); (first | exact o_conv (k' := .i64) rfl (wr (by omega)) | exact o_conv (k' := .u64) rfl (wu (by omega)) | exact hquo rfl rfl | exact o_neqB rfl rfl | exact dp | exact oc rfl (hls) | exact oc rfl (ho1) | exact oc rfl (hdv) | exact oc rfl (ho2))) | ((with_reducible apply zN); exact dn) | ((with_reducible apply zA); exact da) | ((with_reducible apply zS); exact ds) | ((with_reducible apply zY); exact rfl; exact rfl; exact tf) | ((with_reducible apply zG); exact rfl; exact rfl; exact tf) | ((with_reducible apply zU); exact rfl; exact rfl) | ((with_reducible apply zD); exact rfl; exact rfl) | ((with_reducible apply zB); exact rfl; exact rfl)))
    ((with_reducible first | apply q_retR | apply q_retN); exact rl)
    rfl

end Go.Proofs.YtfcfmpdpjmbcnaaGreatDoor

/- Growths, by the package (chapter 5). -/
namespace Go.Proofs.YtfcfmpdpjmbcnaaGreatDoor
open Go.RowKit
set_option maxRecDepth 20000
set_option maxHeartbeats 8000000

theorem wS_snoc (l : List Wd) (w : Wd) : wS l ++ wC w = wS (l ++ [w]) := by simp [wS]
theorem wS_take (l : List Wd) (k : Nat) : (wS l).take (k * 3) = wS (l.take k) := by
  induction l generalizing k with
  | nil => rw [List.take_nil]; exact List.take_nil
  | cons w l ih =>
    rcases k with _ | k
    · simp
    · have e : (k + 1) * 3 = (wC w).length + k * 3 := by rw [wC_len]; omega
      show (wC w ++ wS l).take ((k + 1) * 3) = wC w ++ wS (l.take k)
      rw [e, List.take_append, List.take_of_length_le (by omega), Nat.add_sub_cancel_left, ih]
theorem raised8_A (den : Int) (hd : 1 ≤ den ∧ den ≤ 10) (s : Nat) (h : s ≤ 8) : AC Tryz.prog 70 [I den, I s] (I (den ^ s)) := by
  refine ac_body Tryz.func70 rfl (by kernel_rfl) fun w0 ok => ?_; show AWp _ (ctx0 w0 ok _) _ (ARet _ _ _) (entry _)
  (repeat' (first | (with_reducible first | intro hg | refine mv (by constructor) ?_) | ((with_reducible first | refine zR ?_ ?_ | refine zW mixed ?_ ?_); exact kr) | ((with_reducible apply zK); exact rfl; exact tf) | ((with_reducible apply zCD); exact rfl) | ((with_reducible apply zCN); exact rfl) | ((with_reducible apply zC); exact rfl) | ((with_reducible refine zX ?_ ?_); exact rfl) | ((with_reducible refine zE (And.intro ?_ ?_)); exact kr) | (with_reducible refine zE ?_) | ((with_reducible apply zP); exact dp) | ((with_reducible apply zN); exact dn) | ((with_reducible apply zA); exact da) | ((with_reducible apply zS); exact ds) | ((with_reducible apply zY); exact rfl; exact rfl; exact tf) | ((with_reducible apply zG); exact rfl; exact rfl; exact tf) | ((with_reducible apply zU); exact rfl; exact rfl) | ((with_reducible apply zD); exact rfl; exact rfl) | ((with_reducible apply zB); exact rfl; exact rfl)))
  refine awp_loopL (α := Nat) (fun k => [(0, .d (I den)), (5, .d (I (den ^ k))), (6, .d (I s)), (7, .d (I k))]) (fun _ => []) (fun k => k ≤ s) (fun k => s - k) 0 (Nat.zero_le _) (And.intro rfl (And.intro (congrArg (fun n : Int => AV.d (I n)) (Int.pow_zero _).symm) (And.intro (rfl) (And.intro (rfl) trivial)))) trivial fun k hk => ?_
  by_cases hlt : k < s
  · have h1 := pow_rng hd (t := k + 1) (by omega)
    rw [Int.pow_succ] at h1
    have e : den ^ k * den = den ^ (k + 1) := (Int.pow_succ _ _).symm
    (repeat' (first | (with_reducible first | intro hg | refine mv (by constructor) ?_) | ((with_reducible first | refine zR ?_ ?_ | refine zW mixed ?_ ?_); exact kr) | ((with_reducible apply zK); exact rfl; exact tf) | ((with_reducible apply zCD); exact rfl) | ((with_reducible apply zCN); exact rfl) | ((with_reducible apply zC); exact rfl) | ((with_reducible refine zX ?_ ?_); exact rfl) | ((with_reducible refine zE (And.intro ?_ ?_)); exact kr) | (with_reducible refine zE ?_) | ((with_reducible apply zP); exact dp) | ((with_reducible apply zN); exact dn) | ((with_reducible apply zA); exact da) | ((with_reducible apply zS); exact ds) | ((with_reducible apply zY); exact rfl; exact rfl; exact tf) | ((with_reducible apply zG); exact rfl; exact rfl; exact tf) | ((with_reducible apply zU); exact rfl; exact rfl) | ((with_reducible apply zD); exact rfl; exact rfl) | ((with_reducible apply zB); exact rfl; exact rfl)))
    exact ⟨k + 1, hlt, by omega, (And.intro rfl (And.intro (congrArg (fun n : Int => AV.d (I n)) e) (And.intro (rfl) (And.intro (rfl) trivial)))), trivial⟩
  · obtain rfl : k = s := by omega
    exact zF
abbrev grC (x : List Int) (cs : List (List Int)) : List DV := [isl x, llV cs]
theorem nzg1_A (n : Int) : AC Tryz.prog 68 ([I n] ++ []) (B (decide (n ≠ 0))) := by
  refine ac_body Tryz.func68 rfl (by kernel_rfl) fun w0 ok => ?_; show AWp _ (ctx0 w0 ok _) _ (ARet _ _ _) (entry _)
  exact zF
def grE (c : List Rg) (den : Int) (x : List Int) (cs : List (List Int)) : Int := fst0 [srE c den x cs, unl (decide ((0 : Int) < (cs.length : Int))) 10, unl (!!x.any fun n => decide (n ≠ 0)) 11]
theorem checkGrowth_err (c : List Rg) (den : Int) (x : List Int) (cs : List (List Int)) (h1 : c.length ≤ 140737488355328) (h2 : x.length ≤ 140737488355328) (h3 : cs.length ≤ 140737488355328) (h4 : ∀ r ∈ cs, r.length ≤ 140737488355328) (h : grE c den x cs ≠ 0) : AC Tryz.prog 30 [loV c den, .agg (grC x cs)] (.tuple [F2 (0, 0), I (grE c den x cs)]) := by
  have w1 := startErr_A c den x cs h1 h2 h3 h4
  have w2 := containsFunc_A 68 (EntI.eq (P := Tryz.prog) (f := 68)) .val (fun n => decide (n ≠ 0)) x h2 (fun n _ => nzg1_A n)
  have hf := first3_A (srE c den x cs) (unl (decide ((0 : Int) < (cs.length : Int))) 10) (unl (!!x.any fun n => decide (n ≠ 0)) 11)
  have e0 : grE c den x cs = fst0 [srE c den x cs, unl (decide ((0 : Int) < (cs.length : Int))) 10, unl (!!x.any fun n => decide (n ≠ 0)) 11] := rfl
  rw [← e0] at hf
  generalize grE c den x cs = e at *
  clear e0
  refine ac_body Tryz.func30 rfl (by kernel_rfl) fun w0 ok => ?_; show AWp _ (ctx0 w0 ok _) _ (ARet _ _ _) (entry _)
  (repeat' (first | (with_reducible first | intro hg | refine mv (by constructor) ?_) | ((with_reducible first | refine zR ?_ ?_ | refine zW mixed ?_ ?_); exact kr) | ((with_reducible apply zK); exact rfl; exact tf) | ((with_reducible apply zCD); exact rfl) | ((with_reducible apply zCN); exact rfl) | ((with_reducible apply zC); exact rfl) | ((with_reducible refine zX ?_ ?_); exact rfl) | ((with_reducible refine zE (And.intro ?_ ?_)); exact kr) | (with_reducible refine zE ?_) | ((with_reducible apply zP); (first | exact dp | exact oc rfl (w1) | exact oc rfl (w2) | exact oc rfl (unless_A _ _) | exact oc rfl (hf))) | ((with_reducible apply zN); exact dn) | ((with_reducible apply zA); exact da) | ((with_reducible apply zS); exact ds) | ((with_reducible apply zY); exact rfl; exact rfl; exact tf) | ((with_reducible apply zG); exact rfl; exact rfl; exact tf) | ((with_reducible apply zU); exact rfl; exact rfl) | ((with_reducible apply zD); exact rfl; exact rfl) | ((with_reducible apply zB); exact rfl; exact rfl)))
  ((with_reducible first | apply q_retR | apply q_retN); exact rl)
  rfl
structure GwOk (c : List Rg) (den : Int) (x : List Int) (cs : List (List Int)) : Prop where
  lo : LoopOk c den
  xl : x.length = c.length
  xb : ∀ i, (nth x i).natAbs ≤ 100
  cl : cs.length ≤ 8
  cf : CfOk x.length cs
  nz : x.any (fun n => decide (n ≠ 0)) = true
  c0 : 0 < cs.length
theorem grE_ok {c : List Rg} {den : Int} {x : List Int} {cs : List (List Int)} (h : grE c den x cs = 0) : GwOk c den x cs := by
  unfold grE at h
  obtain ⟨h1, h⟩ := fst0_cons h
  obtain ⟨h2, h⟩ := fst0_cons h
  rw [fst0_one] at h
  have h3 := unl_ok (by decide) h
  have h2 := of_decide_eq_true (unl_ok (by decide) h2)
  obtain ⟨g1, g2, g3, g4, g5⟩ := srE_ok h1
  have hl := loE_ok g1
  refine ⟨hl, g2, g3, g4, ?_, by rw [Bool.not_not] at h3; exact h3, by omega⟩
  rw [g2]
  exact cf_ok hl g5
def gwF (den : Int) (x : List Int) (cs : List (List Int)) : Fr × Int := gwW (wsF den cs x cs.length cs.length) x (den ^ cs.length)
theorem checkGrowth_ok (c : List Rg) (den : Int) (x : List Int) (cs : List (List Int)) (h : grE c den x cs = 0) : AC Tryz.prog 30 [loV c den, .agg (grC x cs)] (.tuple [F2 (gwF den x cs).1, I (gwF den x cs).2]) := by
  obtain ⟨hlo, hxl, hx, hcl, hcf, hnz, hc0⟩ := grE_ok h
  obtain ⟨l1, l3, _, hden⟩ := hlo
  have hlr : ∀ r ∈ cs, r.length ≤ 140737488355328 := fun r hr => by
    obtain ⟨t, ht, rfl⟩ := List.getElem_of_mem hr
    have := hcf.l t ht
    rw [List.getD_eq_getElem?_getD, List.getElem?_eq_getElem ht] at this
    have this : cs[t].length = x.length := this
    omega
  have w1 := startErr_A c den x cs (by omega) (by omega) (by omega) hlr
  have w2 := containsFunc_A 68 (EntI.eq (P := Tryz.prog) (f := 68)) .val (fun n => decide (n ≠ 0)) x (by omega) (fun n _ => nzg1_A n)
  have hf := first3_A (srE c den x cs) (unl (decide ((0 : Int) < (cs.length : Int))) 10) (unl (!!x.any fun n => decide (n ≠ 0)) 11)
  have e0 : grE c den x cs = fst0 [srE c den x cs, unl (decide ((0 : Int) < (cs.length : Int))) 10, unl (!!x.any fun n => decide (n ≠ 0)) 11] := rfl
  rw [← e0, h] at hf
  have wra := raised8_A den hden cs.length hcl
  have hW := fun t ht => wsF_ok hden hx (by omega) (by omega) hcf hcl (dz := []) (fun t => rfl) t ht
  have hDr := pow_rng hden (t := cs.length) (by omega)
  have hfac := factor_A (wsF den cs x cs.length cs.length) x (den ^ cs.length) (hW _ (Nat.le_refl _)).len (by omega) hx (hW _ (Nat.le_refl _)).k hDr hnz
  have eR : gwW (wsF den cs x cs.length cs.length) x (den ^ cs.length) = gwF den x cs := rfl
  rw [eR] at hfac
  have h0 : x.map (fun n => ofW (n * den ^ cs.length)) = wsF den cs x cs.length 0 := rfl
  have hsteps : ∀ t, wsF den cs x cs.length (t + 1) = ovW (smW (cs.getD t []) (wsF den cs x cs.length t) (cs.getD t []).length) den.toNat :: (wsF den cs x cs.length t).take (x.length - 1) := fun t => rfl
  generalize gwF den x cs = Rr at *
  generalize wsF den cs x cs.length = WF at *
  obtain ⟨D, hD⟩ : ∃ D, D = den ^ cs.length := ⟨_, rfl⟩
  rw [← hD] at wra hW hDr hfac h0
  clear hD e0 h eR hnz hlr
  refine ac_body Tryz.func30 rfl (by kernel_rfl) fun w0 ok => ?_; show AWp _ (ctx0 w0 ok _) _ (ARet _ _ _) (entry _)
  (repeat' (first | (with_reducible first | intro hg | refine mv (by constructor) ?_) | ((with_reducible first | refine zR ?_ ?_ | refine zW mixed ?_ ?_); exact kr) | ((with_reducible apply zK); exact rfl; exact tf) | ((with_reducible apply zCD); exact rfl) | ((with_reducible apply zCN); exact rfl) | ((with_reducible apply zC); exact rfl) | ((with_reducible refine zX ?_ ?_); exact rfl) | ((with_reducible refine zE (And.intro ?_ ?_)); exact kr) | (with_reducible refine zE ?_) | ((with_reducible apply zP); (first | exact dp | exact oc rfl (w1) | exact oc rfl (w2) | exact oc rfl (unless_A _ _) | exact oc rfl (hf) | exact oc rfl (wra))) | ((with_reducible apply zN); exact dn) | ((with_reducible apply zA); exact da) | ((with_reducible apply zS); exact ds) | ((with_reducible apply zY); exact rfl; exact rfl; exact tf) | ((with_reducible apply zG); exact rfl; exact rfl; exact tf) | ((with_reducible apply zU); exact rfl; exact rfl) | ((with_reducible apply zD); exact rfl; exact rfl) | ((with_reducible apply zB); exact rfl; exact rfl)))
  clear w1 w2 hf wra
  refine awp_loopL (α := Nat) (fun k => [(2, .ptr 2 0), (3, .ptr 3 0), (4, .ptr 4 0), (8, .d (I D)), (9, ownZ 60 3 k), (48, .d (isl x)), (49, .d (I x.length)), (50, .d (I k))]) (fun k => (2, ⟨24, [rgV c, I den]⟩) :: (3, ⟨42, grC x cs⟩) :: (4, ⟨47, [I 0, I 0]⟩) :: ownM 60 118 (wS ((x.take k).map fun n => ofW (n * D))) k) (fun k => k ≤ x.length) (fun k => x.length - k) 0 (Nat.zero_le _) (And.intro rfl (And.intro rfl (And.intro rfl (And.intro rfl (And.intro rfl (And.intro rfl (And.intro rfl (And.intro rfl trivial)))))))) (And.intro rfl (And.intro rfl (And.intro rfl trivial))) fun k hk => ?_
  by_cases hlt : k < x.length
  · have hxk := hx k
    have hnb : (nth x k * D).natAbs ≤ 100 * 1000000000 := by
      rw [Int.natAbs_mul]; exact Nat.mul_le_mul hxk (by omega)
    have hwo := gwOf_A (nth x k * D) ⟨by omega, by omega⟩
    have n1 : -9223372036854775808 ≤ nth x k * D := by omega
    have n2 : nth x k * D ≤ 9223372036854775807 := by omega
    have hsn : wS ((x.take k).map fun n => ofW (n * D)) ++ wC (ofW (nth x k * D)) = wS ((x.take (k + 1)).map fun n => ofW (n * D)) := by rw [take_getD hlt, List.map_append]; exact wS_snoc _ (ofW (nth x k * D))
    have hln := wS_len ((x.take k).map fun n => ofW (n * D))
    rw [List.length_map, List.length_take, Nat.min_eq_left hk] at hln
    clear hx hxk hW hfac hsteps hcf hnb
    rcases k with _ | k
    · (repeat' (first | (with_reducible first | intro hg | refine mv (by constructor) ?_) | ((with_reducible first | refine zR ?_ ?_ | refine zW mixed ?_ ?_); exact kr) | ((with_reducible apply zK); exact rfl; exact tf) | ((with_reducible apply zCD); exact rfl) | ((with_reducible apply zCN); exact rfl) | ((with_reducible apply zC); exact rfl) | ((with_reducible refine zX ?_ ?_); exact rfl) | ((with_reducible refine zE (And.intro ?_ ?_)); exact kr) | (with_reducible refine zE ?_) | ((with_reducible apply zP); (first | exact o_indexI (xs := x) (j := 0) rfl rfl (by omega) rfl | exact dp | exact oc rfl (hwo))) | ((with_reducible apply zN); exact dn) | ((with_reducible apply zA); exact da) | ((with_reducible apply zS); exact ds) | ((with_reducible apply zY); exact rfl; exact rfl; exact tf) | ((with_reducible apply zG); exact rfl; exact rfl; exact tf) | ((with_reducible apply zU); exact rfl; exact rfl) | ((with_reducible apply zD); exact rfl; exact rfl) | ((with_reducible apply zB); exact rfl; exact rfl)))
      exact ⟨1, hlt, by omega, (And.intro rfl (And.intro rfl (And.intro rfl (And.intro rfl (And.intro rfl (And.intro rfl (And.intro rfl (And.intro rfl trivial)))))))), (And.intro rfl (And.intro rfl (And.intro rfl (And.intro (congrArg (fun l => some (Blk.mk _ l)) hsn) trivial))))⟩
    · (repeat' (first | (with_reducible first | intro hg | refine mv (by constructor) ?_) | ((with_reducible first | refine zR ?_ ?_ | refine zW mixed ?_ ?_); exact kr) | ((with_reducible apply zK); exact rfl; exact tf) | ((with_reducible apply zCD); exact rfl) | ((with_reducible apply zCN); exact rfl) | ((with_reducible apply zC); exact rfl) | ((with_reducible refine zX ?_ ?_); exact rfl) | ((with_reducible refine zE (And.intro ?_ ?_)); exact kr) | (with_reducible refine zE ?_) | ((with_reducible apply zP); (first | exact o_indexI (xs := x) (j := k + 1) rfl rfl (by omega) rfl | exact dp | exact oc rfl (hwo))) | ((with_reducible apply zN); exact dn) | ((with_reducible apply zA); (first | ((apply o_app); (case hx => exact rfl); (case hm => exact rfl); (case hy => exact .own rfl rfl); (case hty => exact rfl); (case hl => solve | exact hln | rfl); (case hcl => solve | rfl | exact hln | simp); (case hpos => omega); (case hb => omega); (case hb2 => omega); (case hnew => exact rfl)) | ((apply o_app); (case hx => exact rfl); (case hm => exact rfl); (case hy => exact .sl rfl); (case hty => exact rfl); (case hl => solve | exact hln | rfl); (case hcl => solve | rfl | exact hln | simp); (case hpos => omega); (case hb => omega); (case hb2 => omega); (case hnew => exact rfl)) | exact da)) | ((with_reducible apply zS); exact ds) | ((with_reducible apply zY); exact rfl; exact rfl; exact tf) | ((with_reducible apply zG); exact rfl; exact rfl; exact tf) | ((with_reducible apply zU); exact rfl; exact rfl) | ((with_reducible apply zD); exact rfl; exact rfl) | ((with_reducible apply zB); exact rfl; exact rfl)))
      exact ⟨k + 2, hlt, by omega, (And.intro rfl (And.intro rfl (And.intro rfl (And.intro rfl (And.intro rfl (And.intro rfl (And.intro rfl (And.intro rfl trivial)))))))), (And.intro rfl (And.intro rfl (And.intro rfl (And.intro (congrArg (fun l => some (Blk.mk _ l)) hsn) trivial))))⟩
  obtain rfl : k = x.length := by omega
  have hl0 := wS_len (WF 0)
  have hl1 := (hW 0 (Nat.zero_le _)).len
  rw [List.take_length, h0]
  clear h0
  refine awp_ownZ 9 60 3 (t := 118) (wS (WF 0)) (by omega) rfl (fun k hk => by rw [hk]; rfl) ?_
  (repeat' (first | (with_reducible first | intro hg | refine mv (by constructor) ?_) | ((with_reducible first | refine zR ?_ ?_ | refine zW mixed ?_ ?_); exact kr) | ((with_reducible apply zK); exact rfl; exact tf) | ((with_reducible apply zCD); exact rfl) | ((with_reducible apply zCN); exact rfl) | ((with_reducible apply zC); exact rfl) | ((with_reducible refine zX ?_ ?_); exact rfl) | ((with_reducible refine zE (And.intro ?_ ?_)); exact kr) | (with_reducible refine zE ?_) | ((with_reducible apply zP); exact dp) | ((with_reducible apply zN); exact dn) | ((with_reducible apply zA); exact da) | ((with_reducible apply zS); exact ds) | ((with_reducible apply zY); exact rfl; exact rfl; exact tf) | ((with_reducible apply zG); exact rfl; exact rfl; exact tf) | ((with_reducible apply zU); exact rfl; exact rfl) | ((with_reducible apply zD); exact rfl; exact rfl) | ((with_reducible apply zB); exact rfl; exact rfl)))
  refine awp_loopL (α := Nat) (fun t => [(2, .ptr 2 0), (3, .ptr 3 0), (4, .ptr 4 0), (8, .d (I D)), (9, .d (.slice x.length (wS (WF t)))), (63, .d (llV cs)), (64, .d (I cs.length)), (65, .d (I t))]) (fun _ => [(2, ⟨24, [rgV c, I den]⟩), (3, ⟨42, grC x cs⟩), (4, ⟨47, [I 0, I 0]⟩)]) (fun t => t ≤ cs.length) (fun t => cs.length - t) 0 (Nat.zero_le _) (And.intro rfl (And.intro rfl (And.intro rfl (And.intro rfl (And.intro rfl (And.intro rfl (And.intro rfl (And.intro rfl trivial)))))))) (And.intro rfl (And.intro rfl (And.intro rfl trivial))) fun t ht => ?_
  by_cases htl : t < cs.length
  rotate_left
  · obtain rfl : t = cs.length := by omega
    clear hW hsteps hx hcf
    exact zF
  have hrl := hcf.l t htl
  obtain ⟨r, hr⟩ : ∃ r, r = cs.getD t [] := ⟨_, rfl⟩
  have hcb := fun i => hcf.b t i
  rw [← hr] at hrl hcb
  have hnext := hsteps t
  rw [← hr, hrl] at hnext
  have hnl := (hW (t + 1) htl).len
  obtain ⟨hsl, _, hsk⟩ := hW t ht
  have hsm := smW_le hsk hcb
  generalize WF t = st at *
  clear hW hsteps hx hcf hfac
  have hz0 : ([.val (.int .u64 0), .val (.int .u64 0), .val (.bool false)] : List DV) = wC (smW r st 0) := by
    show _ = [U (0 / 18446744073709551616), U (0 % 18446744073709551616), B false]
    rw [Nat.zero_div, Nat.zero_mod]; rfl
  (repeat' (first | (with_reducible first | intro hg | refine mv (by constructor) ?_) | ((with_reducible first | refine zR ?_ ?_ | refine zW mixed ?_ ?_); exact kr) | ((with_reducible apply zK); exact rfl; exact tf) | ((with_reducible apply zCD); exact rfl) | ((with_reducible apply zCN); exact rfl) | ((with_reducible apply zC); exact rfl) | ((with_reducible refine zX ?_ ?_); exact rfl) | ((with_reducible refine zE (And.intro ?_ ?_)); exact kr) | (with_reducible refine zE ?_) | ((with_reducible apply zP); (first | exact o_indexF [] (j := t) llC_len (by decide) rfl rfl htl rfl | exact dp)) | ((with_reducible apply zN); exact dn) | ((with_reducible apply zA); exact da) | ((with_reducible apply zS); exact ds) | ((with_reducible apply zY); exact rfl; exact rfl; exact tf) | ((with_reducible apply zG); exact rfl; exact rfl; exact tf) | ((with_reducible apply zU); exact rfl; exact rfl) | ((with_reducible apply zD); exact rfl; exact rfl) | ((with_reducible apply zB); exact rfl; exact rfl)))
  refine awp_loopL (α := Nat) (fun i => [(2, .ptr 2 0), (3, .ptr 3 0), (4, .ptr 4 0), (8, .d (I D)), (9, .d (.slice x.length (wS st))), (14, .ptr 14 0), (63, .d (llV cs)), (64, .d (I cs.length)), (65, .d (I t)), (69, .d (isl r)), (70, .d (I x.length)), (71, .d (I i))]) (fun i => [(2, ⟨24, [rgV c, I den]⟩), (3, ⟨42, grC x cs⟩), (4, ⟨47, [I 0, I 0]⟩), (14, ⟨118, wC (smW r st i)⟩)]) (fun i => i ≤ x.length) (fun i => x.length - i) 0 (Nat.zero_le _) (And.intro rfl (And.intro rfl (And.intro rfl (And.intro rfl (And.intro rfl (And.intro rfl (And.intro rfl (And.intro rfl (And.intro rfl (And.intro (congrArg (fun r => AV.d (isl r)) hr.symm) (And.intro (congrArg (fun n : Nat => AV.d (I n)) (by rw [← hr]; exact hrl)) (And.intro (rfl) trivial)))))))))))) (And.intro rfl (And.intro rfl (And.intro rfl (And.intro (congrArg (fun l => some (Blk.mk _ l)) hz0) trivial)))) fun i hi => ?_
  by_cases hil : i < x.length
  · have p1 : (st.getD i wd0).1 * (nth r i).natAbs ≤ 100000000000000000000000 * 10 := Nat.mul_le_mul (hsk i) (hcb i)
    have p2 := hsm i
    have p3 := hcb i
    have p4 : i * (100000000000000000000000 * 10) ≤ 3 * (100000000000000000000000 * 10) := Nat.mul_le_mul_right _ (by omega)
    have wb := by_A (st.getD i wd0) (nth r i) ⟨by omega, by omega⟩ (by omega)
    have wp := plus_A (smW r st i) (byW (st.getD i wd0) (nth r i)) (by
      have e : (byW (st.getD i wd0) (nth r i)).1 = (st.getD i wd0).1 * (nth r i).natAbs := rfl
      omega)
    have hirl : i < r.length := by omega
    clear p1 p2 p3 p4 hsk hsm hcb
    (repeat' (first | (with_reducible first | intro hg | refine mv (by constructor) ?_) | ((with_reducible first | refine zR ?_ ?_ | refine zW mixed ?_ ?_); exact kr) | ((with_reducible apply zK); exact rfl; exact tf) | ((with_reducible apply zCD); exact rfl) | ((with_reducible apply zCN); exact rfl) | ((with_reducible apply zC); exact rfl) | ((with_reducible refine zX ?_ ?_); exact rfl) | ((with_reducible refine zE (And.intro ?_ ?_)); exact kr) | (with_reducible refine zE ?_) | ((with_reducible apply zP); (first | exact o_indexI (xs := r) (j := i) rfl rfl hirl rfl | exact o_indexF wd0 (j := i) (xs := st) wC_len (by decide) rfl rfl hil hsl.symm | exact dp | exact oc rfl (wb) | exact oc rfl (wp))) | ((with_reducible apply zN); exact dn) | ((with_reducible apply zA); exact da) | ((with_reducible apply zS); exact ds) | ((with_reducible apply zY); exact rfl; exact rfl; exact tf) | ((with_reducible apply zG); exact rfl; exact rfl; exact tf) | ((with_reducible apply zU); exact rfl; exact rfl) | ((with_reducible apply zD); exact rfl; exact rfl) | ((with_reducible apply zB); exact rfl; exact rfl)))
    exact ⟨i + 1, hil, by omega, (And.intro rfl (And.intro rfl (And.intro rfl (And.intro rfl (And.intro rfl (And.intro rfl (And.intro rfl (And.intro rfl (And.intro rfl (And.intro rfl (And.intro rfl (And.intro rfl trivial)))))))))))), (And.intro rfl (And.intro rfl (And.intro rfl (And.intro rfl trivial))))⟩
  obtain rfl : i = x.length := by omega
  have p2 := hsm x.length
  have p4 : x.length * (100000000000000000000000 * 10) ≤ 3 * (100000000000000000000000 * 10) := Nat.mul_le_mul_right _ (by omega)
  have wov := over_A (smW r st x.length) den.toNat (by omega) (by omega) (by omega)
  have hdu : IntKind.u64.wrap den = ((den.toNat : Nat) : Int) := by
    have e : den = ((den.toNat : Nat) : Int) := by omega
    conv => lhs; rw [e]
    exact wu (by omega)
  obtain ⟨m, hm⟩ : ∃ m, x.length = m + 1 := ⟨x.length - 1, by omega⟩
  have hslr := wS_len st
  clear p2 p4 hsk hsm hcb
  generalize smW r st x.length = z at *
  (repeat' ((fail_if_success (with_reducible show AWp _ _ (.region 22 _ _) _ _)); (first | (with_reducible first | intro hg | refine mv (by constructor) ?_) | ((with_reducible first | refine zR ?_ ?_ | refine zW mixed ?_ ?_); exact kr) | ((with_reducible apply zK); exact rfl; exact tf) | ((with_reducible apply zCD); exact rfl) | ((with_reducible apply zCN); exact rfl) | ((with_reducible apply zC); exact rfl) | ((with_reducible refine zX ?_ ?_); exact rfl) | ((with_reducible refine zE (And.intro ?_ ?_)); exact kr) | (with_reducible refine zE ?_) | ((with_reducible apply zP); (first | exact o_conv (k' := .u64) rfl hdu | exact dp | exact oc rfl (wov))) | ((with_reducible apply zN); exact dn) | ((with_reducible apply zA); exact da) | ((with_reducible apply zS); exact ds) | ((with_reducible apply zY); exact rfl; exact rfl; exact tf) | ((with_reducible apply zG); exact rfl; exact rfl; exact tf) | ((with_reducible apply zU); exact rfl; exact rfl) | ((with_reducible apply zD); exact rfl; exact rfl) | ((with_reducible apply zB); exact rfl; exact rfl))))
  refine awp_cut [(2, .ptr 2 0), (3, .ptr 3 0), (4, .ptr 4 0), (8, .d (I D)), (9, .d (.slice (m + 1) (wS st))), (14, .ptr 14 0), (63, .d (llV cs)), (64, .d (I cs.length)), (65, .d (I t))] [(2, ⟨24, [rgV c, I den]⟩), (3, ⟨42, grC x cs⟩), (4, ⟨47, [I 0, I 0]⟩), (14, ⟨118, wC (ovW z den.toNat)⟩)] (And.intro rfl (And.intro rfl (And.intro rfl (And.intro rfl (And.intro (congrArg (fun n : Nat => AV.d (.slice n (wS st))) hm) (And.intro (rfl) (And.intro (rfl) (And.intro (rfl) (And.intro (rfl) trivial))))))))) (And.intro rfl (And.intro rfl (And.intro rfl (And.intro rfl trivial)))) ?_
  have hcells : wC (ovW z den.toNat) ++ (wS st).take (m * 3) = wS (WF (t + 1)) := by
    rw [hnext, hm, wS_take]; rfl
  have hsr2 := wS_len (WF (t + 1))
  have hfz : ∀ l : List DV, l = wS (WF (t + 1)) → AV.d (.slice (m + 1) ((l.drop 0).take ((m + 1) * 3))) = .d (.slice x.length (wS (WF (t + 1)))) := fun l hl => by
    subst hl
    rw [List.drop_zero, List.take_of_length_le (by omega), hm]
  have htk : ((wS st).take (m * 3)).length = m * 3 := by rw [List.length_take]; omega
  generalize wS st = S8 at *
  clear hnext hsl wov hdu
  rcases m with _ | m
  · have hcells : wC (ovW z den.toNat) = wS (WF (t + 1)) := by rw [← hcells, Nat.zero_mul, List.take_zero, List.append_nil]
    (repeat' ((fail_if_success (with_reducible show AWp _ _ (.region 23 _ _) _ _)); (first | (with_reducible first | intro hg | refine mv (by constructor) ?_) | ((with_reducible first | refine zR ?_ ?_ | refine zW mixed ?_ ?_); exact kr) | ((with_reducible apply zK); exact rfl; exact tf) | ((with_reducible apply zCD); exact rfl) | ((with_reducible apply zCN); exact rfl) | ((with_reducible apply zC); exact rfl) | ((with_reducible refine zX ?_ ?_); exact rfl) | ((with_reducible refine zE (And.intro ?_ ?_)); exact kr) | (with_reducible refine zE ?_) | ((with_reducible apply zP); (first | exact o_sliceH (h := 0) rfl rfl (by omega) | exact dp)) | ((with_reducible apply zN); exact dn) | ((with_reducible apply zA); exact da) | ((with_reducible apply zS); exact ds) | ((with_reducible apply zY); exact rfl; exact rfl; exact tf) | ((with_reducible apply zG); exact rfl; exact rfl; exact tf) | ((with_reducible apply zU); exact rfl; exact rfl) | ((with_reducible apply zD); exact rfl; exact rfl) | ((with_reducible apply zB); exact rfl; exact rfl))))
    refine awp_freeze 94 rfl ?_
    (repeat' (first | (with_reducible first | intro hg | refine mv (by constructor) ?_) | ((with_reducible first | refine zR ?_ ?_ | refine zW mixed ?_ ?_); exact kr) | ((with_reducible apply zK); exact rfl; exact tf) | ((with_reducible apply zCD); exact rfl) | ((with_reducible apply zCN); exact rfl) | ((with_reducible apply zC); exact rfl) | ((with_reducible refine zX ?_ ?_); exact rfl) | ((with_reducible refine zE (And.intro ?_ ?_)); exact kr) | (with_reducible refine zE ?_) | ((with_reducible apply zP); exact dp) | ((with_reducible apply zN); exact dn) | ((with_reducible apply zA); exact da) | ((with_reducible apply zS); exact ds) | ((with_reducible apply zY); exact rfl; exact rfl; exact tf) | ((with_reducible apply zG); exact rfl; exact rfl; exact tf) | ((with_reducible apply zU); exact rfl; exact rfl) | ((with_reducible apply zD); exact rfl; exact rfl) | ((with_reducible apply zB); exact rfl; exact rfl)))
    exact ⟨t + 1, htl, by omega, (And.intro rfl (And.intro rfl (And.intro rfl (And.intro rfl (And.intro (hfz _ hcells) (And.intro (rfl) (And.intro (rfl) (And.intro (rfl) trivial)))))))), (And.intro rfl (And.intro rfl (And.intro rfl trivial)))⟩
  · have hm1c : ((m + 1 + 1 : Nat) : Int) - 1 = ((m + 1 : Nat) : Int) := by omega
    have hap : (1 : Nat) + (m + 1) = m + 1 + 1 := by omega
    (repeat' ((fail_if_success (with_reducible show AWp _ _ (.region 23 _ _) _ _)); (first | (with_reducible first | intro hg | refine mv (by constructor) ?_) | ((with_reducible first | refine zR ?_ ?_ | refine zW mixed ?_ ?_); exact kr) | ((with_reducible apply zK); exact rfl; exact tf) | ((with_reducible apply zCD); exact rfl) | ((with_reducible apply zCN); exact rfl) | ((with_reducible apply zC); exact rfl) | ((with_reducible refine zX ?_ ?_); exact rfl) | ((with_reducible refine zE (And.intro ?_ ?_)); exact kr) | (with_reducible refine zE ?_) | ((with_reducible apply zP); (first | exact o_sliceH (h := m + 1) rfl (congrArg (fun n : Int => AV.d (I n)) hm1c) (by omega) | exact dp)) | ((with_reducible apply zN); exact dn) | ((with_reducible apply zA); (first | ((apply o_app); (case hx => exact rfl); (case hm => exact rfl); (case hy => exact .own rfl rfl); (case hty => exact rfl); (case hl => solve | exact htk | rfl); (case hcl => solve | rfl | exact htk | simp); (case hpos => omega); (case hb => omega); (case hb2 => omega); (case hnew => exact rfl)) | ((apply o_app); (case hx => exact rfl); (case hm => exact rfl); (case hy => exact .sl rfl); (case hty => exact rfl); (case hl => solve | exact htk | rfl); (case hcl => solve | rfl | exact htk | simp); (case hpos => omega); (case hb => omega); (case hb2 => omega); (case hnew => exact rfl)) | exact da)) | ((with_reducible apply zS); exact ds) | ((with_reducible apply zY); exact rfl; exact rfl; exact tf) | ((with_reducible apply zG); exact rfl; exact rfl; exact tf) | ((with_reducible apply zU); exact rfl; exact rfl) | ((with_reducible apply zD); exact rfl; exact rfl) | ((with_reducible apply zB); exact rfl; exact rfl))))
    have hfz2 : ∀ l : List DV, l = wS (WF (t + 1)) → AV.d (.slice (1 + (m + 1)) ((l.drop 0).take ((1 + (m + 1)) * 3))) = .d (.slice x.length (wS (WF (t + 1)))) := by rw [hap]; exact hfz
    refine awp_freeze 100 rfl ?_
    (repeat' (first | (with_reducible first | intro hg | refine mv (by constructor) ?_) | ((with_reducible first | refine zR ?_ ?_ | refine zW mixed ?_ ?_); exact kr) | ((with_reducible apply zK); exact rfl; exact tf) | ((with_reducible apply zCD); exact rfl) | ((with_reducible apply zCN); exact rfl) | ((with_reducible apply zC); exact rfl) | ((with_reducible refine zX ?_ ?_); exact rfl) | ((with_reducible refine zE (And.intro ?_ ?_)); exact kr) | (with_reducible refine zE ?_) | ((with_reducible apply zP); exact dp) | ((with_reducible apply zN); exact dn) | ((with_reducible apply zA); exact da) | ((with_reducible apply zS); exact ds) | ((with_reducible apply zY); exact rfl; exact rfl; exact tf) | ((with_reducible apply zG); exact rfl; exact rfl; exact tf) | ((with_reducible apply zU); exact rfl; exact rfl) | ((with_reducible apply zD); exact rfl; exact rfl) | ((with_reducible apply zB); exact rfl; exact rfl)))
    exact ⟨t + 1, htl, by omega, (And.intro rfl (And.intro rfl (And.intro rfl (And.intro rfl (And.intro (hfz2 _ hcells) (And.intro (rfl) (And.intro (rfl) (And.intro (rfl) trivial)))))))), (And.intro rfl (And.intro rfl (And.intro rfl trivial)))⟩

end Go.Proofs.YtfcfmpdpjmbcnaaGreatDoor
