/- Growths, by the reference (chapter 5). -/
import Derived.Test.YtfcfmpdpjmbcnaaGreatDr
import Derived.Test.YtfcfmpdpjmbcnaaGreatSk
import Derived.Test.YtfcfmpdpjmbcnaaGreatNf
set_option linter.unusedVariables false
set_option linter.unusedSimpArgs false
namespace Go.Proofs.YtfcfmpdpjmbcnaaGreat
open Go.RowKit
set_option maxRecDepth 20000
set_option maxHeartbeats 8000000

abbrev zrL (n : Nat) : List Int := lst (fun _ => 0) n
theorem zrL_int (n : Nat) : (zeros [Value.int .i64 0] (n * 1)).map DV.val = ivs (zrL n) := by
  rw [Nat.mul_one]
  unfold zeros ivs zrL lst
  rw [List.map_map, List.map_map]
  refine List.map_congr_left fun i _ => ?_
  show DV.val (([Value.int .i64 0] : List Value).getD (i % 1) undef) = _
  rw [Nat.mod_one]; rfl
theorem nth_zrL (n t : Nat) : nth (zrL n) t = 0 := by
  by_cases h : t < n
  · exact lst_nth _ h
  · exact nth_out (by rw [lst_length]; exact h)
/-- A growth's factor, by the reference. -/
def gqR (den : Int) (x : List Int) (cs : List (List Int)) : Fr × Int := bif decide (cs.length = 0) then ((0, 0), 10) else bif x.any (fun n => decide (n ≠ 0)) then gwQ (hst den cs (zrL cs.length) x cs.length) x else ((0, 0), 11)
theorem gqR_eq {c : List Rg} {den : Int} {x : List Int} {cs : List (List Int)} (h : GwOk c den x cs) : gqR den x cs = gwF den x cs := by
  have h0 := h.c0
  have hW := wsF_ok h.lo.d h.xb (by rw [h.xl]; exact h.lo.l1) (by rw [h.xl]; exact h.lo.l3) h.cf h.cl (dz := zrL cs.length) (nth_zrL cs.length) cs.length (Nat.le_refl _)
  obtain ⟨_, n2, n3⟩ := nz_ok h.nz
  have hD := pow_rng h.lo.d (t := cs.length) (by have := h.cl; omega)
  have e := gwW_eq (show den ^ cs.length ≠ 0 by omega) hW n2 n3
  unfold gqR gwF
  rw [decide_eq_false (show ¬ cs.length = 0 by omega), h.nz, e]
  rfl
theorem gwQ_no {q : List Rat} {x : List Int} {i : Nat} (hi : i < x.length) (h : ¬ q.getD i 0 = q.getD (nzAt x) 0 / ((nth x (nzAt x) : Int) : Rat) * ((nth x i : Int) : Rat)) : gwQ q x = ((0, 0), 19) := by
  unfold gwQ
  rw [show (List.range x.length).all (fun i => decide (q.getD i 0 = q.getD (nzAt x) 0 / ((nth x (nzAt x) : Int) : Rat) * ((nth x i : Int) : Rat))) = false from ?_]
  · rfl
  · rw [List.all_eq_false]
    exact ⟨i, List.mem_range.2 hi, by rw [decide_eq_false h]; decide⟩
theorem gwQ_yes {q : List Rat} {x : List Int} (h : ∀ i, i < x.length → q.getD i 0 = q.getD (nzAt x) 0 / ((nth x (nzAt x) : Int) : Rat) * ((nth x i : Int) : Rat)) : gwQ q x = bif decide (q.getD (nzAt x) 0 / ((nth x (nzAt x) : Int) : Rat) * (q.getD (nzAt x) 0 / ((nth x (nzAt x) : Int) : Rat)) < 1) then ((0, 0), 19) else frQ (q.getD (nzAt x) 0 / ((nth x (nzAt x) : Int) : Rat)) := by
  unfold gwQ
  rw [show (List.range x.length).all (fun i => decide (q.getD i 0 = q.getD (nzAt x) 0 / ((nth x (nzAt x) : Int) : Rat) * ((nth x i : Int) : Rat))) = true from List.all_eq_true.2 fun i hi => decide_eq_true (h i (List.mem_range.1 hi))]
  rfl
theorem qcheckGrowth_A (c : List Rg) (den : Int) (x : List Int) (cs : List (List Int)) (hlo : LoopOk c den) (hxl : x.length = c.length) (hx : ∀ i, (nth x i).natAbs ≤ 100) (hcl : cs.length ≤ 8) (hcf : CfOk x.length cs) :
    AC Tryz.prog 15 [loV c den, .agg (grC x cs)] (.tuple [F2 (gqR den x cs).1, I (gqR den x cs).2]) := by
  obtain ⟨l1, l3, _, hden⟩ := hlo
  by_cases h0 : cs.length = 0
  · have e : gqR den x cs = ((0, 0), 10) := by unfold gqR; rw [decide_eq_true h0]; rfl
    rw [e]
    clear hcf hx hcl e
    refine ac_body Tryz.func15 rfl (by kernel_rfl) fun w0 ok => ?_; show AWp _ (ctx0 w0 ok _) _ (ARet _ _ _) (entry _)
    (repeat' (first | (with_reducible first | intro hg | refine mv (by constructor) ?_) | ((with_reducible first | refine zR ?_ ?_ | refine zW mixed ?_ ?_); exact kr) | ((with_reducible apply zK); exact rfl; exact tf) | ((with_reducible apply zCD); exact rfl) | ((with_reducible apply zCN); exact rfl) | ((with_reducible apply zC); exact rfl) | ((with_reducible refine zX ?_ ?_); exact rfl) | ((with_reducible refine zE (And.intro ?_ ?_)); exact kr) | (with_reducible refine zE ?_) | ((with_reducible apply zP); exact dp) | ((with_reducible apply zN); exact dn) | ((with_reducible apply zA); exact da) | ((with_reducible apply zS); exact ds) | ((with_reducible apply zY); exact rfl; exact rfl; exact tf) | ((with_reducible apply zG); exact rfl; exact rfl; exact tf) | ((with_reducible apply zU); exact rfl; exact rfl) | ((with_reducible apply zD); exact rfl; exact rfl) | ((with_reducible apply zB); exact rfl; exact rfl)))
    ((with_reducible first | apply q_retR | apply q_retN); exact rl)
    rfl
  have hS := states_A c den x cs (zrL cs.length) ⟨hden, by omega, by omega, hx, by omega, hcf, by rw [show (zrL cs.length).length = cs.length from lst_length _ _]; exact Nat.le_refl _, by rw [show (zrL cs.length).length = cs.length from lst_length _ _]; omega, fun t => by rw [nth_zrL]; decide⟩
  have z1 : isl (zrL cs.length) = DV.slice cs.length (ivs (zrL cs.length)) := by
    show DV.slice (zrL cs.length).length _ = _
    rw [lst_length]
  rw [z1] at hS
  have hov := hst_ov (dz := zrL cs.length) hden hx (fun t => by rw [nth_zrL]; decide) (by omega) hcf cs.length (Nat.le_refl _)
  have hB := bB8 (t := cs.length) (by omega)
  have hD := pow_rng hden (t := cs.length) (by omega)
  have hstS := fun i => (hov i).ratS (by omega) (by omega) (by omega)
  have hback := fun i (hi : i < x.length) => outL_back den cs (zrL cs.length) x (t := cs.length) (i := i) (by omega)
  have hol := outL_len den cs (zrL cs.length) x cs.length
  have hgq : gqR den x cs = bif x.any (fun n => decide (n ≠ 0)) then gwQ (hst den cs (zrL cs.length) x cs.length) x else ((0, 0), 11) := by
    unfold gqR
    rw [decide_eq_false h0]; rfl
  rw [hgq]
  have hneg := idxF_neg (fun n => decide (n ≠ 0)) x 0
  have hnz := @nz_ok x
  have hno := fun i (hi : i < x.length) => @gwQ_no (hst den cs (zrL cs.length) x cs.length) x i hi
  have hyes := @gwQ_yes (hst den cs (zrL cs.length) x cs.length) x
  generalize hst den cs (zrL cs.length) x cs.length = q at *
  generalize outL den cs (zrL cs.length) x cs.length = O at *
  generalize gwQ q x = Rr at *
  clear hgq hov hB hD z1 hcf
  refine ac_body Tryz.func15 rfl (by kernel_rfl) fun w0 ok => ?_; show AWp _ (ctx0 w0 ok _) _ (ARet _ _ _) (entry _)
  (repeat' (first | (with_reducible first | intro hg | refine mv (by constructor) ?_) | ((with_reducible first | refine zR ?_ ?_ | refine zW mixed ?_ ?_); exact kr) | ((with_reducible apply zK); exact rfl; exact tf) | ((with_reducible apply zCD); exact rfl) | ((with_reducible apply zCN); exact rfl) | ((with_reducible apply zC); exact rfl) | ((with_reducible refine zX ?_ ?_); exact rfl) | ((with_reducible refine zE (And.intro ?_ ?_)); exact kr) | (with_reducible refine zE ?_) | ((with_reducible apply zP); exact dp) | ((with_reducible apply zN); exact dn) | ((with_reducible apply zA); exact da) | ((with_reducible apply zS); exact ds) | ((with_reducible apply zY); exact rfl; exact rfl; exact tf) | ((with_reducible apply zG); exact rfl; exact rfl; exact tf) | ((with_reducible apply zU); exact rfl; exact rfl) | ((with_reducible apply zD); exact rfl; exact rfl) | ((with_reducible apply zB); exact rfl; exact rfl)))
  refine awp_loopL (α := Nat) (fun k => [(2, .ptr 2 0), (3, .ptr 3 0), (4, .ptr 4 0), (6, .d (I (idxF (fun n => decide (n ≠ 0)) (x.drop (x.length - k)) (x.length - k)))), (7, .d (I ((x.length : Int) - 1 - k)))]) (fun _ => [(2, ⟨24, [rgV c, I den]⟩), (3, ⟨28, grC x cs⟩), (4, ⟨34, [I 0, I 0]⟩)]) (fun k => k ≤ x.length) (fun k => x.length - k) 0 (Nat.zero_le _) (And.intro rfl (And.intro rfl (And.intro rfl (And.intro (by rw [Nat.sub_zero, List.drop_length]; rfl) (And.intro (congrArg (fun n : Int => AV.d (I n)) (by omega)) trivial))))) (And.intro rfl (And.intro rfl (And.intro rfl trivial))) fun k hk => ?_
  by_cases hlt : k < x.length
  · obtain ⟨i, hi⟩ : ∃ i, i = x.length - 1 - k := ⟨_, rfl⟩
    have hil : i < x.length := by omega
    have e1 : x.length - k = i + 1 := by omega
    have e2 : x.length - (k + 1) = i := by omega
    have e3 : (x.length : Int) - 1 - k = (i : Int) := by omega
    have e4 : (i : Int) - 1 = (x.length : Int) - 1 - ((k + 1 : Nat) : Int) := by omega
    have hs : idxF (fun n => decide (n ≠ 0)) (x.drop i) i = bif decide (nth x i ≠ 0) then (i : Int) else idxF (fun n => decide (n ≠ 0)) (x.drop (i + 1)) (i + 1) := by rw [drop_getD hil]; rfl
    rw [e1, e3]
    have hm : x.length - (k + 1) < i + 1 := by omega
    clear hS hx hstS hback hol hneg hnz hno hyes hi
    by_cases hn : nth x i = 0
    · rw [decide_eq_false (show ¬ nth x i ≠ 0 from fun h => h hn)] at hs
      have hs : idxF (fun n => decide (n ≠ 0)) (x.drop (i + 1)) (i + 1) = idxF (fun n => decide (n ≠ 0)) (x.drop (x.length - (k + 1))) (x.length - (k + 1)) := by rw [e2, hs]; rfl
      (repeat' (first | (with_reducible first | intro hg | refine mv (by constructor) ?_) | ((with_reducible first | refine zR ?_ ?_ | refine zW mixed ?_ ?_); exact kr) | ((with_reducible apply zK); exact rfl; exact tf) | ((with_reducible apply zCD); exact rfl) | ((with_reducible apply zCN); exact rfl) | ((with_reducible apply zC); exact rfl) | ((with_reducible refine zX ?_ ?_); exact rfl) | ((with_reducible refine zE (And.intro ?_ ?_)); exact kr) | (with_reducible refine zE ?_) | ((with_reducible apply zP); (first | exact o_indexI (xs := x) (j := i) rfl rfl hil rfl | exact dp)) | ((with_reducible apply zN); exact dn) | ((with_reducible apply zA); exact da) | ((with_reducible apply zS); exact ds) | ((with_reducible apply zY); exact rfl; exact rfl; exact tf) | ((with_reducible apply zG); exact rfl; exact rfl; exact tf) | ((with_reducible apply zU); exact rfl; exact rfl) | ((with_reducible apply zD); exact rfl; exact rfl) | ((with_reducible apply zB); exact rfl; exact rfl)))
      exact ⟨k + 1, hlt, hm, (And.intro rfl (And.intro rfl (And.intro rfl (And.intro (congrArg (fun n : Int => AV.d (I n)) hs) (And.intro (congrArg (fun n : Int => AV.d (I n)) e4) trivial))))), (And.intro rfl (And.intro rfl (And.intro rfl trivial)))⟩
    · rw [decide_eq_true (show nth x i ≠ 0 from hn)] at hs
      have hs : (i : Int) = idxF (fun n => decide (n ≠ 0)) (x.drop (x.length - (k + 1))) (x.length - (k + 1)) := by rw [e2, hs]; rfl
      (repeat' (first | (with_reducible first | intro hg | refine mv (by constructor) ?_) | ((with_reducible first | refine zR ?_ ?_ | refine zW mixed ?_ ?_); exact kr) | ((with_reducible apply zK); exact rfl; exact tf) | ((with_reducible apply zCD); exact rfl) | ((with_reducible apply zCN); exact rfl) | ((with_reducible apply zC); exact rfl) | ((with_reducible refine zX ?_ ?_); exact rfl) | ((with_reducible refine zE (And.intro ?_ ?_)); exact kr) | (with_reducible refine zE ?_) | ((with_reducible apply zP); (first | exact o_indexI (xs := x) (j := i) rfl rfl hil rfl | exact dp)) | ((with_reducible apply zN); exact dn) | ((with_reducible apply zA); exact da) | ((with_reducible apply zS); exact ds) | ((with_reducible apply zY); exact rfl; exact rfl; exact tf) | ((with_reducible apply zG); exact rfl; exact rfl; exact tf) | ((with_reducible apply zU); exact rfl; exact rfl) | ((with_reducible apply zD); exact rfl; exact rfl) | ((with_reducible apply zB); exact rfl; exact rfl)))
      exact ⟨k + 1, hlt, hm, (And.intro rfl (And.intro rfl (And.intro rfl (And.intro (congrArg (fun n : Int => AV.d (I n)) hs) (And.intro (congrArg (fun n : Int => AV.d (I n)) e4) trivial))))), (And.intro rfl (And.intro rfl (And.intro rfl trivial)))⟩
  obtain rfl : k = x.length := by omega
  rw [Nat.sub_self, List.drop_zero]
  have e5 : (x.length : Int) - 1 - x.length = -1 := by omega
  rw [e5]
  cases hany : x.any (fun n => decide (n ≠ 0))
  · rw [hany] at hneg
    have hneg : ¬ 0 ≤ idxF (fun n => decide (n ≠ 0)) x 0 := of_decide_eq_false hneg
    generalize idxF (fun n => decide (n ≠ 0)) x 0 = a at *
    clear hS hx hstS hback hol hnz hno hyes
    (repeat' (first | (with_reducible first | intro hg | refine mv (by constructor) ?_) | ((with_reducible first | refine zR ?_ ?_ | refine zW mixed ?_ ?_); exact kr) | ((with_reducible apply zK); exact rfl; exact tf) | ((with_reducible apply zCD); exact rfl) | ((with_reducible apply zCN); exact rfl) | ((with_reducible apply zC); exact rfl) | ((with_reducible refine zX ?_ ?_); exact rfl) | ((with_reducible refine zE (And.intro ?_ ?_)); exact kr) | (with_reducible refine zE ?_) | ((with_reducible apply zP); exact dp) | ((with_reducible apply zN); exact dn) | ((with_reducible apply zA); exact da) | ((with_reducible apply zS); exact ds) | ((with_reducible apply zY); exact rfl; exact rfl; exact tf) | ((with_reducible apply zG); exact rfl; exact rfl; exact tf) | ((with_reducible apply zU); exact rfl; exact rfl) | ((with_reducible apply zD); exact rfl; exact rfl) | ((with_reducible apply zB); exact rfl; exact rfl)))
    ((with_reducible first | apply q_retR | apply q_retN); exact rl)
    rfl
  obtain ⟨n1, hjl, hjn⟩ := hnz hany
  rw [n1]
  generalize nzAt x = j at *
  obtain ⟨F, hF⟩ : ∃ F, F = q.getD j 0 / ((nth x j : Int) : Rat) := ⟨_, rfl⟩
  rw [← hF] at hno hyes
  have hxj := hx j
  have hj0 : ((nth x j : Int) : Rat) ≠ 0 := castNe hjn
  have sF : RatS 6 F := by rw [hF]; exact (hstS j).div (int_ratS (by omega)) hj0
  have wj := ratioInt_A (nth x j) ⟨by omega, by omega⟩
  have wd := ratioDiv_A ((hstS j).mono (show 3 ≤ 10000 by decide)) ((int_ratS (show (nth x j).natAbs ≤ 1000000000000000000 by omega)).mono (show 3 ≤ 10000 by decide)) hj0
  rw [← hF] at wd
  have hbj := hback j hjl
  obtain ⟨mj, hmj⟩ : ∃ m, m = x.length + cs.length - 1 - j := ⟨_, rfl⟩
  rw [← hmj] at hbj
  have hmj2 : ((x.length + cs.length : Nat) : Int) - 1 - (j : Int) = (mj : Int) := by omega
  have hmjl : mj < x.length + cs.length := by omega
  rw [← hbj] at wd
  clear hneg hnz n1 hF hxj hj0 hjn hbj hmj
  (repeat' ((fail_if_success (with_reducible show AWp _ _ (.region 14 _ _) _ _)); (first | (with_reducible first | intro hg | refine mv (by constructor) ?_) | ((with_reducible first | refine zR ?_ ?_ | refine zW mixed ?_ ?_); exact kr) | ((with_reducible apply zK); exact rfl; exact tf) | ((with_reducible apply zCD); exact rfl) | ((with_reducible apply zCN); exact rfl) | ((with_reducible apply zC); exact rfl) | ((with_reducible refine zX ?_ ?_); exact rfl) | ((with_reducible refine zE (And.intro ?_ ?_)); exact kr) | (with_reducible refine zE ?_) | ((with_reducible apply zP); (first | exact o_makeSlD (n := cs.length) rfl (by omega) (by omega) (zrL_int _) | exact o_indexF (0 : Rat) (j := mj) (xs := O) ratC_len (by decide) rfl (congrArg (fun n : Int => AV.d (I n)) hmj2) hmjl hol.symm | exact o_indexI (xs := x) (j := j) rfl rfl hjl rfl | exact dp | exact oc rfl (hS) | exact oc rfl (wj) | exact oc rfl (wd))) | ((with_reducible apply zN); exact dn) | ((with_reducible apply zA); exact da) | ((with_reducible apply zS); exact ds) | ((with_reducible apply zY); exact rfl; exact rfl; exact tf) | ((with_reducible apply zG); exact rfl; exact rfl; exact tf) | ((with_reducible apply zU); exact rfl; exact rfl) | ((with_reducible apply zD); exact rfl; exact rfl) | ((with_reducible apply zB); exact rfl; exact rfl))))
  refine awp_cut [(2, .ptr 2 0), (3, .ptr 3 0), (4, .ptr 4 0), (8, .d (.slice (x.length + cs.length) (raS O))), (9, .d (I ((x.length + cs.length : Nat) - 1 : Int))), (10, .ptr 10 0)] [(2, ⟨24, [rgV c, I den]⟩), (3, ⟨28, grC x cs⟩), (4, ⟨34, [I 0, I 0]⟩), (10, ⟨57, ratC F⟩)] (And.intro rfl (And.intro rfl (And.intro rfl (And.intro rfl (And.intro rfl (And.intro rfl trivial)))))) (And.intro rfl (And.intro rfl (And.intro rfl (And.intro rfl trivial)))) ?_
  clear hS wj wd hmj2 hmjl hjl
  (repeat' (first | (with_reducible first | intro hg | refine mv (by constructor) ?_) | ((with_reducible first | refine zR ?_ ?_ | refine zW mixed ?_ ?_); exact kr) | ((with_reducible apply zK); exact rfl; exact tf) | ((with_reducible apply zCD); exact rfl) | ((with_reducible apply zCN); exact rfl) | ((with_reducible apply zC); exact rfl) | ((with_reducible refine zX ?_ ?_); exact rfl) | ((with_reducible refine zE (And.intro ?_ ?_)); exact kr) | (with_reducible refine zE ?_) | ((with_reducible apply zP); exact dp) | ((with_reducible apply zN); exact dn) | ((with_reducible apply zA); exact da) | ((with_reducible apply zS); exact ds) | ((with_reducible apply zY); exact rfl; exact rfl; exact tf) | ((with_reducible apply zG); exact rfl; exact rfl; exact tf) | ((with_reducible apply zU); exact rfl; exact rfl) | ((with_reducible apply zD); exact rfl; exact rfl) | ((with_reducible apply zB); exact rfl; exact rfl)))
  refine awp_loopL (α := Nat) (fun i => [(2, .ptr 2 0), (3, .ptr 3 0), (4, .ptr 4 0), (8, .d (.slice (x.length + cs.length) (raS O))), (9, .d (I ((x.length + cs.length : Nat) - 1 : Int))), (10, .ptr 10 0), (11, .d (I i))]) (fun _ => [(2, ⟨24, [rgV c, I den]⟩), (3, ⟨28, grC x cs⟩), (4, ⟨34, [I 0, I 0]⟩), (10, ⟨57, ratC F⟩)]) (fun i => i ≤ x.length ∧ ∀ n, n < i → q.getD n 0 = F * ((nth x n : Int) : Rat)) (fun i => x.length - i) 0 ⟨Nat.zero_le _, fun n hn => absurd hn (by omega)⟩ (And.intro rfl (And.intro rfl (And.intro rfl (And.intro rfl (And.intro rfl (And.intro rfl (And.intro rfl trivial))))))) (And.intro rfl (And.intro rfl (And.intro rfl (And.intro rfl trivial)))) fun i ⟨hi, hall⟩ => ?_
  by_cases hil : i < x.length
  · have hxi := hx i
    have wi := ratioInt_A (nth x i) ⟨by omega, by omega⟩
    have sx := int_ratS (show (nth x i).natAbs ≤ 1000000000000000000 by omega)
    have wm := ratioMul_A (sF.mono (show 6 ≤ 10000 by decide)) (sx.mono (show 3 ≤ 10000 by decide))
    have wc := ratioCmp_A ((hstS i).mono (show 3 ≤ 10000 by decide)) ((sF.mul sx).mono (show 6 + 3 ≤ 10000 by decide))
    have hbi := hback i hil
    obtain ⟨mi, hmi⟩ : ∃ m, m = x.length + cs.length - 1 - i := ⟨_, rfl⟩
    rw [← hmi] at hbi
    have hmi2 : ((x.length + cs.length : Nat) : Int) - 1 - (i : Int) = (mi : Int) := by omega
    have hmil : mi < x.length + cs.length := by omega
    have hm : x.length - (i + 1) < x.length - i := by omega
    have hz := @cmpR_zero (q.getD i 0) (F * ((nth x i : Int) : Rat))
    have hno := hno i hil
    have hall2 : q.getD i 0 = F * ((nth x i : Int) : Rat) → ∀ n, n < i + 1 → q.getD n 0 = F * ((nth x n : Int) : Rat) := fun h n hn => by
      by_cases e : n = i
      · rw [e]; exact h
      · exact hall n (by omega)
    have hcb := cmpR_bnd (q.getD i 0) (F * ((nth x i : Int) : Rat))
    rw [← hbi] at wc
    rw [← hbi] at hz hcb hno hall2
    clear hx hstS hback hyes hall hxi sx hmi hbi
    generalize cmpR (O.getD mi 0) (F * ((nth x i : Int) : Rat)) = cr at *
    by_cases he : cr = 0
    · have hall2 := hall2 (hz.1 he)
      clear hno hz
      (repeat' (first | (with_reducible first | intro hg | refine mv (by constructor) ?_) | ((with_reducible first | refine zR ?_ ?_ | refine zW mixed ?_ ?_); exact kr) | ((with_reducible apply zK); exact rfl; exact tf) | ((with_reducible apply zCD); exact rfl) | ((with_reducible apply zCN); exact rfl) | ((with_reducible apply zC); exact rfl) | ((with_reducible refine zX ?_ ?_); exact rfl) | ((with_reducible refine zE (And.intro ?_ ?_)); exact kr) | (with_reducible refine zE ?_) | ((with_reducible apply zP); (first | exact o_indexF (0 : Rat) (j := mi) (xs := O) ratC_len (by decide) rfl (congrArg (fun n : Int => AV.d (I n)) hmi2) hmil hol.symm | exact o_indexI (xs := x) (j := i) rfl rfl hil rfl | exact dp | exact oc rfl (wi) | exact oc rfl (wm) | exact oc rfl (wc))) | ((with_reducible apply zN); exact dn) | ((with_reducible apply zA); exact da) | ((with_reducible apply zS); exact ds) | ((with_reducible apply zY); exact rfl; exact rfl; exact tf) | ((with_reducible apply zG); exact rfl; exact rfl; exact tf) | ((with_reducible apply zU); exact rfl; exact rfl) | ((with_reducible apply zD); exact rfl; exact rfl) | ((with_reducible apply zB); exact rfl; exact rfl)))
      exact ⟨i + 1, ⟨hil, hall2⟩, hm, (And.intro rfl (And.intro rfl (And.intro rfl (And.intro rfl (And.intro rfl (And.intro rfl (And.intro rfl trivial))))))), (And.intro rfl (And.intro rfl (And.intro rfl (And.intro rfl trivial))))⟩
    · obtain rfl := hno fun h => he (hz.2 h)
      clear hz hall2
      (repeat' (first | (with_reducible first | intro hg | refine mv (by constructor) ?_) | ((with_reducible first | refine zR ?_ ?_ | refine zW mixed ?_ ?_); exact kr) | ((with_reducible apply zK); exact rfl; exact tf) | ((with_reducible apply zCD); exact rfl) | ((with_reducible apply zCN); exact rfl) | ((with_reducible apply zC); exact rfl) | ((with_reducible refine zX ?_ ?_); exact rfl) | ((with_reducible refine zE (And.intro ?_ ?_)); exact kr) | (with_reducible refine zE ?_) | ((with_reducible apply zP); (first | exact o_indexF (0 : Rat) (j := mi) (xs := O) ratC_len (by decide) rfl (congrArg (fun n : Int => AV.d (I n)) hmi2) hmil hol.symm | exact o_indexI (xs := x) (j := i) rfl rfl hil rfl | exact dp | exact oc rfl (wi) | exact oc rfl (wm) | exact oc rfl (wc))) | ((with_reducible apply zN); exact dn) | ((with_reducible apply zA); exact da) | ((with_reducible apply zS); exact ds) | ((with_reducible apply zY); exact rfl; exact rfl; exact tf) | ((with_reducible apply zG); exact rfl; exact rfl; exact tf) | ((with_reducible apply zU); exact rfl; exact rfl) | ((with_reducible apply zD); exact rfl; exact rfl) | ((with_reducible apply zB); exact rfl; exact rfl)))
      ((with_reducible first | apply q_retR | apply q_retN); exact rl)
      rfl
  obtain rfl : i = x.length := by omega
  obtain rfl := hyes hall
  have w1 := ratioInt_A 1 ⟨by decide, by decide⟩
  have wm := ratioMul_A (sF.mono (show 6 ≤ 10000 by decide)) (sF.mono (show 6 ≤ 10000 by decide))
  have wc := ratioCmp_A ((sF.mul sF).mono (show 6 + 6 ≤ 10000 by decide)) ((int_ratS (show (1 : Int).natAbs ≤ 1000000000000000000 by decide)).mono (show 3 ≤ 10000 by decide))
  have wf := qfrac_A F (sF.mono (by decide))
  have hz := @cmpR_neg (F * F) ((1 : Int) : Rat)
  have hcb := cmpR_bnd (F * F) ((1 : Int) : Rat)
  have e1 : ((1 : Int) : Rat) = 1 := rfl
  rw [e1] at hz hcb wc
  have w1 : AC Tryz.prog 49 [.val (.int .i64 1)] (ratV 1) := w1
  clear hx hstS hback hyes hall hno
  generalize cmpR (F * F) 1 = cr at *
  by_cases he : F * F < 1
  · rw [decide_eq_true he]
    have he := hz.2 he
    clear hz
    (repeat' (first | (with_reducible first | intro hg | refine mv (by constructor) ?_) | ((with_reducible first | refine zR ?_ ?_ | refine zW mixed ?_ ?_); exact kr) | ((with_reducible apply zK); exact rfl; exact tf) | ((with_reducible apply zCD); exact rfl) | ((with_reducible apply zCN); exact rfl) | ((with_reducible apply zC); exact rfl) | ((with_reducible refine zX ?_ ?_); exact rfl) | ((with_reducible refine zE (And.intro ?_ ?_)); exact kr) | (with_reducible refine zE ?_) | ((with_reducible apply zP); (first | exact dp | exact oc rfl (w1) | exact oc rfl (wm) | exact oc rfl (wc))) | ((with_reducible apply zN); exact dn) | ((with_reducible apply zA); exact da) | ((with_reducible apply zS); exact ds) | ((with_reducible apply zY); exact rfl; exact rfl; exact tf) | ((with_reducible apply zG); exact rfl; exact rfl; exact tf) | ((with_reducible apply zU); exact rfl; exact rfl) | ((with_reducible apply zD); exact rfl; exact rfl) | ((with_reducible apply zB); exact rfl; exact rfl)))
    ((with_reducible first | apply q_retR | apply q_retN); exact rl)
    rfl
  · rw [decide_eq_false he]
    have he : ¬ cr < 0 := fun h => he (hz.1 h)
    clear hz
    (repeat' (first | (with_reducible first | intro hg | refine mv (by constructor) ?_) | ((with_reducible first | refine zR ?_ ?_ | refine zW mixed ?_ ?_); exact kr) | ((with_reducible apply zK); exact rfl; exact tf) | ((with_reducible apply zCD); exact rfl) | ((with_reducible apply zCN); exact rfl) | ((with_reducible apply zC); exact rfl) | ((with_reducible refine zX ?_ ?_); exact rfl) | ((with_reducible refine zE (And.intro ?_ ?_)); exact kr) | (with_reducible refine zE ?_) | ((with_reducible apply zP); (first | exact dp | exact oc rfl (w1) | exact oc rfl (wm) | exact oc rfl (wc) | exact oc rfl (wf))) | ((with_reducible apply zN); exact dn) | ((with_reducible apply zA); exact da) | ((with_reducible apply zS); exact ds) | ((with_reducible apply zY); exact rfl; exact rfl; exact tf) | ((with_reducible apply zG); exact rfl; exact rfl; exact tf) | ((with_reducible apply zU); exact rfl; exact rfl) | ((with_reducible apply zD); exact rfl; exact rfl) | ((with_reducible apply zB); exact rfl; exact rfl)))
    ((with_reducible first | apply q_retR | apply q_retN); exact rl)
    rfl

end Go.Proofs.YtfcfmpdpjmbcnaaGreat
