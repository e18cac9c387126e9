/- Heat along a roll. -/
import Derived.Test.YtagpmpbmfjaiiaaGreatDoorPb
set_option linter.unusedVariables false
set_option linter.unusedSimpArgs false
namespace Go.Proofs.YtagpmpbmfjaiiaaGreatDoor
open Go.RowKit
set_option maxRecDepth 20000
set_option maxHeartbeats 8000000

theorem floor_A (n : Int) (hn : Sm n) : AC Tryz.prog 112 [I n] (I (n / 1000)) := by
  obtain ⟨hn1, hn2⟩ := hn
  have h6 := Int.natAbs_tdiv_le_natAbs n 1000
  refine ac_body Tryz.func112 rfl (by kernel_rfl) fun w0 ok => ?_; show AWp _ (ctx0 w0 ok _) _ (ARet _ _ _) (entry _)
  (repeat' (first | (with_reducible first | intro hg | refine mv (by constructor) ?_) | ((with_reducible first | refine zR ?_ ?_ | refine zW mixed ?_ ?_); exact kr) | ((with_reducible apply zK); exact rfl; exact tf) | ((with_reducible apply zCD); exact rfl) | ((with_reducible apply zCN); exact rfl) | ((with_reducible apply zC); exact rfl) | ((with_reducible refine zX ?_ ?_); exact rfl) | ((with_reducible refine zE (And.intro ?_ ?_)); exact kr) | (with_reducible refine zE ?_) | ((with_reducible apply zP); (first | exact o_rem (r := n.tmod 1000) rfl rfl (by decide) rfl | exact dp)) | ((with_reducible apply zN); exact dn) | ((with_reducible apply zA); exact da) | ((with_reducible apply zS); exact ds) | ((with_reducible apply zY); exact rfl; exact rfl; exact tf) | ((with_reducible apply zG); exact rfl; exact rfl; exact tf) | ((with_reducible apply zU); exact rfl; exact rfl) | ((with_reducible apply zD); exact rfl; exact rfl) | ((with_reducible apply zB); exact rfl; exact rfl)))
  all_goals
    ((with_reducible first | apply q_retR | apply q_retN); exact rl)
    exact rt_int (by rcases tmod_cases n 1000 (by decide) with ⟨h, _, e⟩ | ⟨h, _, e⟩ <;> omega)

theorem mul_rng {x e : Int} (A B : Nat) (h1 : x.natAbs ≤ A) (h2 : e.natAbs ≤ B) : (x * e).natAbs ≤ A * B := by rw [Int.natAbs_mul]; exact Nat.mul_le_mul h1 h2
/-- The part of a neighbour. -/
def nbr (t : List Int) (n b k : Int) : Int := bif inR k 0 ((t.length : Int) - 1) then (nth t k.toNat - n) * b else 0
def stp (t : List Int) (a c b : Int) (i : Nat) : Int := nth t i + ((a - nth t i) * c + nbr t (nth t i) b ((i : Int) - 1) + nbr t (nth t i) b ((i : Int) + 1)) / 1000
def outL (f : Nat → Int) (n k : Nat) : List Int := lst f k ++ List.replicate (n - k) 0
theorem outL_len (f : Nat → Int) {n k : Nat} (h : k ≤ n) : (outL f n k).length = n := by simp [outL, lst]; omega
theorem outL_set (f : Nat → Int) {n k : Nat} (h : k < n) {v : Int} (hv : v = f k) : (outL f n k).set k v = outL f n (k + 1) := by
  unfold outL
  rw [lst_succ, show n - k = (n - (k + 1)) + 1 by omega, List.replicate_succ, List.set_append_right _ _ (by simp [lst]), lst_length, Nat.sub_self, List.set_cons_zero, hv]
  simp
theorem zeros_one (v : Value) (n : Nat) : (zeros [v] (n * 1)).map DV.val = List.replicate n (DV.val v) := by
  refine List.eq_replicate_iff.2 ⟨by simp [zeros], fun b hb => ?_⟩
  obtain ⟨x, hx, rfl⟩ := List.mem_map.1 hb
  obtain ⟨i, _, rfl⟩ := List.mem_map.1 hx
  show DV.val ([v][i % 1]?.getD undef) = _
  rw [Nat.mod_one]; rfl
structure HeatOk (t : List Int) (a c b : Int) : Prop where
  l2 : 2 ≤ t.length
  l9 : t.length ≤ 9
  tb : ∀ x ∈ t, -100000 ≤ x ∧ x ≤ 100000
  a : -100000 ≤ a ∧ a ≤ 100000
  c : 0 ≤ c ∧ c ≤ 1000
  b : 0 ≤ b ∧ b ≤ 1000

theorem step_A (t : List Int) (a c b : Int) (h : HeatOk t a c b) : ACo Tryz.prog 91 [isl t, .agg [I a, I c, I b]] 3 t.length 1 (ivs (lst (stp t a c b) t.length)) := by
  have h2 := h.l2
  have h9 := h.l9
  obtain ⟨ha1, ha2⟩ := h.a
  obtain ⟨hc1, hc2⟩ := h.c
  obtain ⟨hb1, hb2⟩ := h.b
  refine aco_body Tryz.func91 rfl (by kernel_rfl) fun w0 ok => ?_; show AWp _ (ctx0 w0 ok _) _ (ARetO _ _ _ _ _) (entry _)
  (repeat' (first | (with_reducible first | intro hg | refine mv (by constructor) ?_) | ((with_reducible first | refine zR ?_ ?_ | refine zW mixed ?_ ?_); exact kr) | ((with_reducible apply zK); exact rfl; exact tf) | ((with_reducible apply zCD); exact rfl) | ((with_reducible apply zCN); exact rfl) | ((with_reducible apply zC); exact rfl) | ((with_reducible refine zX ?_ ?_); exact rfl) | ((with_reducible refine zE (And.intro ?_ ?_)); exact kr) | (with_reducible refine zE ?_) | ((with_reducible apply zP); exact dp) | ((with_reducible apply zN); (first | exact dn | exact o_makeSl rfl (by omega) (by omega) rfl)) | ((with_reducible apply zA); exact da) | ((with_reducible apply zS); exact ds) | ((with_reducible apply zY); exact rfl; exact rfl; exact tf) | ((with_reducible apply zG); exact rfl; exact rfl; exact tf) | ((with_reducible apply zU); exact rfl; exact rfl) | ((with_reducible apply zD); exact rfl; exact rfl) | ((with_reducible apply zB); exact rfl; exact rfl)))
  refine awp_loopL (α := Nat) (fun k => [(0, .d (isl t)), (3, .ptr 3 0), (5, .lsl 13 0 t.length 1), (14, .d (isl t)), (15, .d (I t.length)), (16, .d (I k))]) (fun k => [(3, ⟨95, [I a, I c, I b]⟩), (13, ⟨3, ivs (outL (stp t a c b) t.length k)⟩)])
    (fun k => k ≤ t.length) (fun k => t.length - k) 0 (Nat.zero_le _) (And.intro rfl (And.intro rfl (And.intro rfl (And.intro rfl (And.intro rfl (And.intro rfl trivial)))))) (And.intro rfl (And.intro (congrArg (fun l => some (Blk.mk _ l)) ((zeros_one _ _).trans (by simp [outL, lst]))) trivial)) fun k hk => ?_
  by_cases hlt : k < t.length
  · have hn := h.tb _ (nth_mem hlt)
    have hol := outL_len (stp t a c b) hk
    have hset := fun v (hv : v = stp t a c b k) => outL_set (stp t a c b) hlt hv
    have hm1 := mul_rng (x := a - nth t k) (e := c) 200000 1000 (by omega) (by omega)
    generalize outL (stp t a c b) t.length k = M at *
    cases hL : inR ((k : Int) - 1) 0 ((t.length : Int) - 1)
    all_goals cases hR : inR ((k : Int) + 1) 0 ((t.length : Int) - 1)
    · have hv : nth t k + ((a - nth t k) * c) / 1000 = stp t a c b k := by unfold stp nbr; rw [hL, hR]; simp
      (repeat' (first | (with_reducible first | intro hg | refine mv (by constructor) ?_ | refine awp_loopU ?_ | refine awpL_step ?_) | ((with_reducible first | refine zR ?_ ?_ | refine zW mixed ?_ ?_); exact kr) | ((with_reducible apply zK); exact rfl; exact tf) | ((with_reducible apply zCD); exact rfl) | ((with_reducible apply zCN); exact rfl) | ((with_reducible apply zC); exact rfl) | ((with_reducible refine zX ?_ ?_); exact rfl) | ((with_reducible refine zE (And.intro ?_ ?_)); exact kr) | (with_reducible refine zE ?_) | ((with_reducible apply zP); (first | exact o_indexL (o := k) rfl rfl (by omega) (by omega) (by omega) | exact o_indexI (j := k) (xs := t) rfl rfl (by omega) rfl | exact dp | exact oc rfl (within_A _ _ _) | exact oc rfl (floor_A _ ⟨by omega, by omega⟩))) | ((with_reducible apply zN); exact dn) | ((with_reducible apply zA); exact da) | ((with_reducible apply zS); (first | exact o_storeLI rfl rfl rfl (by omega) | exact ds)) | ((with_reducible apply zY); exact rfl; exact rfl; exact tf) | ((with_reducible apply zG); exact rfl; exact rfl; exact tf) | ((with_reducible apply zU); exact rfl; exact rfl) | ((with_reducible apply zD); exact rfl; exact rfl) | ((with_reducible apply zB); exact rfl; exact rfl)))
      exact ⟨k + 1, hlt, by omega, (And.intro rfl (And.intro rfl (And.intro rfl (And.intro rfl (And.intro rfl (And.intro rfl trivial)))))), (And.intro rfl (And.intro (congrArg (fun l => some (Blk.mk _ (ivs l))) (hset _ hv)) trivial))⟩
    · obtain ⟨r1, r2⟩ := inR_iff.1 hR
      have hr := h.tb _ (nth_mem (xs := t) (k := ((k : Int) + 1).toNat) (by omega))
      have hm3 := mul_rng (x := nth t ((k : Int) + 1).toNat - nth t k) (e := b) 200000 1000 (by omega) (by omega)
      have hv : nth t k + ((a - nth t k) * c + (nth t ((k : Int) + 1).toNat - nth t k) * b) / 1000 = stp t a c b k := by unfold stp nbr; rw [hL, hR]; simp
      (repeat' (first | (with_reducible first | intro hg | refine mv (by constructor) ?_ | refine awp_loopU ?_ | refine awpL_step ?_) | ((with_reducible first | refine zR ?_ ?_ | refine zW mixed ?_ ?_); exact kr) | ((with_reducible apply zK); exact rfl; exact tf) | ((with_reducible apply zCD); exact rfl) | ((with_reducible apply zCN); exact rfl) | ((with_reducible apply zC); exact rfl) | ((with_reducible refine zX ?_ ?_); exact rfl) | ((with_reducible refine zE (And.intro ?_ ?_)); exact kr) | (with_reducible refine zE ?_) | ((with_reducible apply zP); (first | exact o_indexL (o := k) rfl rfl (by omega) (by omega) (by omega) | exact o_indexI (j := k) (xs := t) rfl rfl (by omega) rfl | exact dp | exact oc rfl (within_A _ _ _) | exact oc rfl (floor_A _ ⟨by omega, by omega⟩))) | ((with_reducible apply zN); exact dn) | ((with_reducible apply zA); exact da) | ((with_reducible apply zS); (first | exact o_storeLI rfl rfl rfl (by omega) | exact ds)) | ((with_reducible apply zY); exact rfl; exact rfl; exact tf) | ((with_reducible apply zG); exact rfl; exact rfl; exact tf) | ((with_reducible apply zU); exact rfl; exact rfl) | ((with_reducible apply zD); exact rfl; exact rfl) | ((with_reducible apply zB); exact rfl; exact rfl)))
      exact ⟨k + 1, hlt, by omega, (And.intro rfl (And.intro rfl (And.intro rfl (And.intro rfl (And.intro rfl (And.intro rfl trivial)))))), (And.intro rfl (And.intro (congrArg (fun l => some (Blk.mk _ (ivs l))) (hset _ hv)) trivial))⟩
    · obtain ⟨l1, l2⟩ := inR_iff.1 hL
      have hl := h.tb _ (nth_mem (xs := t) (k := ((k : Int) - 1).toNat) (by omega))
      have hm2 := mul_rng (x := nth t ((k : Int) - 1).toNat - nth t k) (e := b) 200000 1000 (by omega) (by omega)
      have hv : nth t k + ((a - nth t k) * c + (nth t ((k : Int) - 1).toNat - nth t k) * b) / 1000 = stp t a c b k := by unfold stp nbr; rw [hL, hR]; simp
      (repeat' (first | (with_reducible first | intro hg | refine mv (by constructor) ?_ | refine awp_loopU ?_ | refine awpL_step ?_) | ((with_reducible first | refine zR ?_ ?_ | refine zW mixed ?_ ?_); exact kr) | ((with_reducible apply zK); exact rfl; exact tf) | ((with_reducible apply zCD); exact rfl) | ((with_reducible apply zCN); exact rfl) | ((with_reducible apply zC); exact rfl) | ((with_reducible refine zX ?_ ?_); exact rfl) | ((with_reducible refine zE (And.intro ?_ ?_)); exact kr) | (with_reducible refine zE ?_) | ((with_reducible apply zP); (first | exact o_indexL (o := k) rfl rfl (by omega) (by omega) (by omega) | exact o_indexI (j := k) (xs := t) rfl rfl (by omega) rfl | exact dp | exact oc rfl (within_A _ _ _) | exact oc rfl (floor_A _ ⟨by omega, by omega⟩))) | ((with_reducible apply zN); exact dn) | ((with_reducible apply zA); exact da) | ((with_reducible apply zS); (first | exact o_storeLI rfl rfl rfl (by omega) | exact ds)) | ((with_reducible apply zY); exact rfl; exact rfl; exact tf) | ((with_reducible apply zG); exact rfl; exact rfl; exact tf) | ((with_reducible apply zU); exact rfl; exact rfl) | ((with_reducible apply zD); exact rfl; exact rfl) | ((with_reducible apply zB); exact rfl; exact rfl)))
      exact ⟨k + 1, hlt, by omega, (And.intro rfl (And.intro rfl (And.intro rfl (And.intro rfl (And.intro rfl (And.intro rfl trivial)))))), (And.intro rfl (And.intro (congrArg (fun l => some (Blk.mk _ (ivs l))) (hset _ hv)) trivial))⟩
    · obtain ⟨r1, r2⟩ := inR_iff.1 hR
      obtain ⟨l1, l2⟩ := inR_iff.1 hL
      have hr := h.tb _ (nth_mem (xs := t) (k := ((k : Int) + 1).toNat) (by omega))
      have hl := h.tb _ (nth_mem (xs := t) (k := ((k : Int) - 1).toNat) (by omega))
      have hm3 := mul_rng (x := nth t ((k : Int) + 1).toNat - nth t k) (e := b) 200000 1000 (by omega) (by omega)
      have hm2 := mul_rng (x := nth t ((k : Int) - 1).toNat - nth t k) (e := b) 200000 1000 (by omega) (by omega)
      have hv : nth t k + ((a - nth t k) * c + (nth t ((k : Int) - 1).toNat - nth t k) * b + (nth t ((k : Int) + 1).toNat - nth t k) * b) / 1000 = stp t a c b k := by unfold stp nbr; rw [hL, hR]; simp
      (repeat' (first | (with_reducible first | intro hg | refine mv (by constructor) ?_ | refine awp_loopU ?_ | refine awpL_step ?_) | ((with_reducible first | refine zR ?_ ?_ | refine zW mixed ?_ ?_); exact kr) | ((with_reducible apply zK); exact rfl; exact tf) | ((with_reducible apply zCD); exact rfl) | ((with_reducible apply zCN); exact rfl) | ((with_reducible apply zC); exact rfl) | ((with_reducible refine zX ?_ ?_); exact rfl) | ((with_reducible refine zE (And.intro ?_ ?_)); exact kr) | (with_reducible refine zE ?_) | ((with_reducible apply zP); (first | exact o_indexL (o := k) rfl rfl (by omega) (by omega) (by omega) | exact o_indexI (j := k) (xs := t) rfl rfl (by omega) rfl | exact dp | exact oc rfl (within_A _ _ _) | exact oc rfl (floor_A _ ⟨by omega, by omega⟩))) | ((with_reducible apply zN); exact dn) | ((with_reducible apply zA); exact da) | ((with_reducible apply zS); (first | exact o_storeLI rfl rfl rfl (by omega) | exact ds)) | ((with_reducible apply zY); exact rfl; exact rfl; exact tf) | ((with_reducible apply zG); exact rfl; exact rfl; exact tf) | ((with_reducible apply zU); exact rfl; exact rfl) | ((with_reducible apply zD); exact rfl; exact rfl) | ((with_reducible apply zB); exact rfl; exact rfl)))
      exact ⟨k + 1, hlt, by omega, (And.intro rfl (And.intro rfl (And.intro rfl (And.intro rfl (And.intro rfl (And.intro rfl trivial)))))), (And.intro rfl (And.intro (congrArg (fun l => some (Blk.mk _ (ivs l))) (hset _ hv)) trivial))⟩
  · rw [show k = t.length by omega, show outL (stp t a c b) t.length t.length = lst (stp t a c b) t.length by simp [outL]]
    (repeat' (first | (with_reducible first | intro hg | refine mv (by constructor) ?_) | ((with_reducible first | refine zR ?_ ?_ | refine zW mixed ?_ ?_); exact kr) | ((with_reducible apply zK); exact rfl; exact tf) | ((with_reducible apply zCD); exact rfl) | ((with_reducible apply zCN); exact rfl) | ((with_reducible apply zC); exact rfl) | ((with_reducible refine zX ?_ ?_); exact rfl) | ((with_reducible refine zE (And.intro ?_ ?_)); exact kr) | (with_reducible refine zE ?_) | ((with_reducible apply zP); exact dp) | ((with_reducible apply zN); exact dn) | ((with_reducible apply zA); exact da) | ((with_reducible apply zS); exact ds) | ((with_reducible apply zY); exact rfl; exact rfl; exact tf) | ((with_reducible apply zG); exact rfl; exact rfl; exact tf) | ((with_reducible apply zU); exact rfl; exact rfl) | ((with_reducible apply zD); exact rfl; exact rfl) | ((with_reducible apply zB); exact rfl; exact rfl)))
    ((with_reducible first | apply q_retO | apply q_retON); exact rfl; exact rfl; exact rfl)

end Go.Proofs.YtagpmpbmfjaiiaaGreatDoor
