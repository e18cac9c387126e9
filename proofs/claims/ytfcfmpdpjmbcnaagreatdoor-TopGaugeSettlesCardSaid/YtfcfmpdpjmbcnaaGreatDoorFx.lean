/- IT SETTLES: the rounds of ticks (chapter 5, across chapters). -/
import Derived.Test.YtfcfmpdpjmbcnaaGreatDoorFv
set_option linter.unusedVariables false
set_option linter.unusedSimpArgs false
namespace Go.Proofs.YtfcfmpdpjmbcnaaGreatDoor
open Go.RowKit
set_option maxRecDepth 20000
set_option maxHeartbeats 8000000

theorem wlen_five {x : Int} (h : x.natAbs ≤ 100000000000000000000000000000000000000) : wlen x ≤ 5 := dg_len_le (by
  have : (1000000000 : Int) ^ 5 = 1000000000000000000000000000000000000000000000 := by decide
  omega)
theorem Ov.ratS5 {D : Int} {K : Nat} {r : Rat} (h : Ov D K r) (hD : 0 < D) (hD2 : D ≤ 100000000000000000000000000000000000000) (hK : K ≤ 100000000000000000000000000000000000000) : RatS 5 r := by
  obtain ⟨N, h1, h2⟩ := h
  rw [ov_eq (by omega) h1]
  exact ratS_divInt N hD (wlen_five (by omega)) (wlen_five (by omega))
theorem bB18 {t : Nat} (h : t ≤ 18) : bB t ≤ 1000000000000000000000000000000 := Nat.le_trans (bB_mono h) (by decide)
theorem pow18 {den : Int} (h : 1 ≤ den ∧ den ≤ 10) {t : Nat} (ht : t ≤ 19) : 0 < den ^ t ∧ den ^ t ≤ 10000000000000000000 := by
  have h1 := pow_pos h.1 t
  have h2 := pow_le10 h t
  have h3 : 10 ^ t ≤ 10 ^ 19 := Nat.pow_le_pow_right (by decide) ht
  have h4 : (10 : Nat) ^ 19 = 10000000000000000000 := by decide
  omega
theorem stt_ov {den : Int} (hd : 1 ≤ den ∧ den ≤ 10) {x : List Int} (hx : ∀ i, (nth x i).natAbs ≤ 100) {n : Nat} (h3 : n ≤ 3) {CS : Nat → List Int} (hc : ∀ t i, (nth (CS t) i).natAbs ≤ 10) : ∀ t i, Ov (den ^ t) (bB t) ((stt den CS n (x.map fun (a : Int) => (a : Rat)) t).getD i 0)
  | 0 => fun i => by
    have : (x.map fun (a : Int) => (a : Rat)).getD i 0 = ((nth x i : Int) : Rat) := by
      unfold nth
      rw [List.getD_eq_getElem?_getD, List.getD_eq_getElem?_getD, List.getElem?_map]
      cases x[i]? <;> simp
    show Ov (den ^ 0) (bB 0) ((x.map fun (a : Int) => (a : Rat)).getD i 0)
    rw [this]
    exact (Ov.int _ _).mono (by have := hx i; simp [bB]; omega)
  | t + 1 => by
    have ih := stt_ov hd hx h3 hc t
    show ∀ i, Ov (den ^ (t + 1)) (bB (t + 1)) ((tkS den (CS t) 0 (stt den CS n (x.map fun (a : Int) => (a : Rat)) t) n :: stt den CS n (x.map fun (a : Int) => (a : Rat)) t).getD i 0)
    rw [Int.pow_succ]
    refine getD_cons_ov ((tkS_ov (by omega) ih (hc t) _).mono ?_) fun i => ((ih i).up den).mono ?_
    · have h2 : n * (10 * bB t) ≤ 3 * (10 * bB t) := Nat.mul_le_mul_right _ h3
      show (0 : Int).natAbs * (den ^ t * den).natAbs + n * (10 * bB t) ≤ 100 * 10 ^ (t + 1) + 30 * bB t
      rw [Int.natAbs_zero, Nat.zero_mul]
      omega
    · have h1 : bB t * den.natAbs ≤ bB t * 10 := Nat.mul_le_mul_left _ (by omega)
      show _ ≤ 100 * 10 ^ (t + 1) + 30 * bB t
      omega
theorem stt_len (den : Int) (CS : Nat → List Int) (n : Nat) (st : List Rat) : ∀ t, (stt den CS n st t).length = t + st.length
  | 0 => (Nat.zero_add _).symm
  | t + 1 => by
    show (tkS den (CS t) 0 (stt den CS n st t) n :: stt den CS n st t).length = _
    rw [List.length_cons, stt_len den CS n st t]
    omega
def sttL (den : Int) (CS : Nat → List Int) (n : Nat) (st : List Rat) (t : Nat) : List Rat := (stt den CS n st t).take n
theorem sttL_len (den : Int) (CS : Nat → List Int) {n : Nat} {st : List Rat} (h : st.length = n) (t : Nat) : (sttL den CS n st t).length = n := by
  unfold sttL
  rw [List.length_take, stt_len, h]
  omega
theorem sttL_get (den : Int) (CS : Nat → List Int) (n : Nat) (st : List Rat) (t : Nat) {i : Nat} (h : i < n) : (sttL den CS n st t).getD i 0 = (stt den CS n st t).getD i 0 := by
  unfold sttL
  rw [List.getD_eq_getElem?_getD, List.getElem?_take, if_pos h, ← List.getD_eq_getElem?_getD]
theorem sttL_next (den : Int) (CS : Nat → List Int) {n : Nat} (st : List Rat) (t : Nat) (h : 0 < n) : sttL den CS n st (t + 1) = tkS den (CS t) 0 (stt den CS n st t) n :: (sttL den CS n st t).take (n - 1) := by
  obtain ⟨m, rfl⟩ : ∃ m, n = m + 1 := ⟨n - 1, by omega⟩
  unfold sttL
  show (tkS den (CS t) 0 (stt den CS (m + 1) st t) (m + 1) :: stt den CS (m + 1) st t).take (m + 1) = _
  rw [List.take_succ_cons, List.take_take, Nat.add_sub_cancel, Nat.min_eq_left (Nat.le_succ m)]
theorem wtR_lt (w : List Int) {st st' : List Rat} {n : Nat} (h : ∀ i, i < n → st.getD i 0 = st'.getD i 0) : ∀ i, i ≤ n → wtR w st i = wtR w st' i
  | 0, _ => rfl
  | i + 1, hi => by unfold wtR; rw [wtR_lt w h i (by omega), h i (by omega)]
def oC : Option Rat → List DV
  | none => [I 0, nilV, I 0, nilV]
  | some r => ratC r
theorem oC_len (o : Option Rat) : (oC o).length = 4 := by cases o <;> rfl
def mixL (x : List Int) (i : Nat) : List (Option Rat) := ((x.take i).map fun (a : Int) => some (a : Rat)) ++ List.replicate (x.length - i) none
theorem mixL_len (x : List Int) {i : Nat} (h : i ≤ x.length) : (mixL x i).length = x.length := by
  unfold mixL
  rw [List.length_append, List.length_map, List.length_take, List.length_replicate]
  omega
theorem mixL_set {x : List Int} {i : Nat} (h : i < x.length) : (mixL x i).set i (some ((nth x i : Int) : Rat)) = mixL x (i + 1) := by
  obtain ⟨k, hk⟩ : ∃ k, x.length - i = k + 1 := ⟨x.length - i - 1, by omega⟩
  unfold mixL
  rw [List.set_append_right _ _ (by rw [List.length_map, List.length_take]; omega), List.length_map, List.length_take, Nat.min_eq_left (by omega), Nat.sub_self, hk, show x.length - (i + 1) = k by omega, List.replicate_succ, List.set_cons_zero, take_getD h, List.map_append, List.append_assoc]
  rfl
theorem mixL_all (x : List Int) : ((mixL x x.length).map oC).flatten = raS (x.map fun (a : Int) => (a : Rat)) := by
  unfold mixL raS
  rw [List.take_length, Nat.sub_self, List.replicate_zero, List.append_nil, List.map_map, List.map_map]
  rfl
theorem zr_mix (x : List Int) : (zeros [Value.int .i64 0, .slice none 0 0, .int .i64 0, .slice none 0 0] (x.length * 4)).map DV.val = ((mixL x 0).map oC).flatten := by
  unfold mixL
  rw [List.take_zero, List.map_nil, List.nil_append, Nat.sub_zero]
  generalize x.length = n
  induction n with
  | zero => rfl
  | succ n ih =>
    rw [List.replicate_succ', List.map_append, List.flatten_append, ← ih]
    unfold zeros
    rw [show (n + 1) * 4 = n * 4 + 1 + 1 + 1 + 1 by omega, List.range_succ, List.range_succ, List.range_succ, List.range_succ]
    simp only [List.map_append, List.append_assoc, List.map_cons, List.map_nil]
    congr 1
    show [DV.val (([Value.int .i64 0, .slice none 0 0, .int .i64 0, .slice none 0 0] : List Value).getD (n * 4 % 4) undef)] ++ ([DV.val (([Value.int .i64 0, .slice none 0 0, .int .i64 0, .slice none 0 0] : List Value).getD ((n * 4 + 1) % 4) undef)] ++ ([DV.val (([Value.int .i64 0, .slice none 0 0, .int .i64 0, .slice none 0 0] : List Value).getD ((n * 4 + 1 + 1) % 4) undef)] ++ [DV.val (([Value.int .i64 0, .slice none 0 0, .int .i64 0, .slice none 0 0] : List Value).getD ((n * 4 + 1 + 1 + 1) % 4) undef)])) = _
    rw [show n * 4 % 4 = 0 by omega, show (n * 4 + 1) % 4 = 1 by omega, show (n * 4 + 1 + 1) % 4 = 2 by omega, show (n * 4 + 1 + 1 + 1) % 4 = 3 by omega]
    rfl
theorem raS_takeT (l : List Rat) (k : Nat) : (raS l).take (k * 4) = raS (l.take k) := by
  induction l generalizing k with
  | nil => rw [List.take_nil]; exact List.take_nil
  | cons r l ih =>
    rcases k with _ | k
    · simp
    · have e : (k + 1) * 4 = (ratC r).length + k * 4 := by rw [ratC_len]; omega
      show (ratC r ++ raS l).take ((k + 1) * 4) = ratC r ++ raS (l.take k)
      rw [e, List.take_append, List.take_of_length_le (by omega), Nat.add_sub_cancel_left, ih]

end Go.Proofs.YtfcfmpdpjmbcnaaGreatDoor
/- IT SETTLES: the walk of the rounds (chapter 5, across chapters). -/
set_option linter.unusedVariables false
set_option linter.unusedSimpArgs false
namespace Go.Proofs.YtfcfmpdpjmbcnaaGreatDoor
open Go.RowKit
set_option maxRecDepth 20000
set_option maxHeartbeats 8000000

theorem tgs_rounds (c : List Rg) (den : Int) (s : Nat) (w x : List Int) (cs : List (List Int)) (h : srE c den x cs = 0) (hp : PrfOk c.length s w) (hN : nrm c den s w < 1) (hsm : smQ (nrm c den s w) = true) (hc0 : 0 < cs.length) (w0 : World) (ok : Nat → Prop) :
    AWp Tryz.prog (ctx0 w0 ok Tryz.f4.ntmps) (dropSt 8 (Tryz.f4.body.getD .skip)) (ARet Tryz.prog Tryz.f4.results.toList (B true)) (tgS c den s w x cs (nrm c den s w)) := by
  have htail := tgs_tail c den s w x cs h hp hN hsm hc0 w0 ok
  obtain ⟨g1, g2, g3, g4, g5⟩ := srE_ok h
  have hL := loE_ok g1
  have hl1 := hL.l1
  have hl3 := hL.l3
  have hs6 := hp.s6
  have hwl := hp.l
  have hden := hL.d
  have hcf : CfOk x.length cs := by rw [g2]; exact cf_ok hL g5
  have hml : ∀ T, T % cs.length < cs.length := fun T => Nat.mod_lt T hc0
  have hrl := fun T => hcf.l (T % cs.length) (hml T)
  have hcb := fun T i => hcf.b (T % cs.length) i
  have hrow : ∀ t, ∀ i, i < c.length → (c.getD i rg0).1 ≤ nth (cs.getD (t % cs.length) []) i ∧ nth (cs.getD (t % cs.length) []) i ≤ (c.getD i rg0).2 := fun t i hi => (cfE1_ok (cfE_ok g5 _ (hml t))).2 i hi
  obtain ⟨X0, hX0⟩ : ∃ X, X = x.map fun (a : Int) => (a : Rat) := ⟨_, rfl⟩
  have hXl : X0.length = x.length := by rw [hX0, List.length_map]
  have hov := stt_ov hden g3 (n := x.length) (by omega) (CS := fun t => cs.getD (t % cs.length) []) hcb
  rw [← hX0] at hov
  have hround := fun a => round_le (s := s) (n := c.length) hden.1 (w := w) (fun i hi => (prf_nthT hp hi).1) hrow X0 a
  rw [← g2] at hround
  have hwb : ∀ i, i < x.length → 1 ≤ nth w i ∧ nth w i ≤ 10 := fun i hi => prf_nthT hp (by omega)
  have hnx := fun T => sttL_next den (fun t => cs.getD (t % cs.length) []) (n := x.length) X0 T (by omega)
  have hgt := fun T i (hi : i < x.length) => sttL_get den (fun t => cs.getD (t % cs.length) []) x.length X0 T hi
  have hln := fun T => sttL_len den (fun t => cs.getD (t % cs.length) []) hXl T
  have hS5 : ∀ T, T ≤ 18 → ∀ i, RatS 5 ((sttL den (fun t => cs.getD (t % cs.length) []) x.length X0 T).getD i 0) := fun T hT i => by
    have hD := pow18 hden (t := T) (by omega)
    have hB := bB18 hT
    by_cases hi : i < x.length
    · rw [hgt T i hi]
      exact (hov T i).ratS5 hD.1 (by omega) (by omega)
    · rw [List.getD_eq_getElem?_getD, List.getElem?_eq_none (by rw [hln T]; omega)]
      exact ((int_ratS (n := 0) (by decide) : RatS 3 ((0 : Int) : Rat))).mono (by decide)
  have hwt := fun T => wtR_lt w (hgt T) x.length (Nat.le_refl _)
  have hle : ∀ a, wtR w (sttL den (fun t => cs.getD (t % cs.length) []) x.length X0 (a + s)) x.length ≤ nrm c den s w * wtR w (sttL den (fun t => cs.getD (t % cs.length) []) x.length X0 a) x.length := fun a => by
    rw [hwt, hwt]
    have := hround a
    unfold nrm
    rw [← g2]
    exact this
  have hs0 : sttL den (fun t => cs.getD (t % cs.length) []) x.length X0 0 = X0 := by
    unfold sttL
    show X0.take x.length = X0
    exact List.take_of_length_le (by omega)
  have hsum : ∀ T, T ≤ 17 → ∀ i, i ≤ x.length → RatS 5 (tkS den (cs.getD (T % cs.length) []) 0 (stt den (fun t => cs.getD (t % cs.length) []) x.length X0 T) i) := fun T hT i hi => by
    have h1 := tkS_ov (d := 0) (cs := cs.getD (T % cs.length) []) (show den ≠ 0 by omega) (hov T) (hcb T) i
    rw [← Int.pow_succ] at h1
    have hD := pow18 hden (t := T + 1) (by omega)
    have hB := bB18 (t := T) (by omega)
    have h3 : i * (10 * bB T) ≤ 3 * (10 * bB T) := Nat.mul_le_mul_right _ (by omega)
    refine Ov.ratS5 (D := den ^ (T + 1)) h1 hD.1 (by omega) ?_
    rw [Int.natAbs_zero, Nat.zero_mul]
    omega
  have sN := nrm_ratS hL hp
  have wfr := from_q (nrm c den s w) hsm
  have hxi := g3
  clear hov hround hwt hrow hcf g1 g3 g5 h hp hN hsm hL
  generalize nrm c den s w = N at *
  have hsucc : ∀ T i, tkS den (cs.getD (T % cs.length) []) 0 (stt den (fun t => cs.getD (t % cs.length) []) x.length X0 T) (i + 1) = tkS den (cs.getD (T % cs.length) []) 0 (stt den (fun t => cs.getD (t % cs.length) []) x.length X0 T) i + Rat.divInt (nth (cs.getD (T % cs.length) []) i) den * (stt den (fun t => cs.getD (t % cs.length) []) x.length X0 T).getD i 0 := fun T i => rfl
  have hzero : ∀ T, tkS den (cs.getD (T % cs.length) []) 0 (stt den (fun t => cs.getD (t % cs.length) []) x.length X0 T) 0 = ((0 : Int) : Rat) := fun T => rfl
  have hnx : ∀ T, sttL den (fun t => cs.getD (t % cs.length) []) x.length X0 (T + 1) = tkS den (cs.getD (T % cs.length) []) 0 (stt den (fun t => cs.getD (t % cs.length) []) x.length X0 T) x.length :: (sttL den (fun t => cs.getD (t % cs.length) []) x.length X0 T).take (x.length - 1) := hnx
  generalize stt den (fun t => cs.getD (t % cs.length) []) x.length X0 = ST at *
  generalize sttL den (fun t => cs.getD (t % cs.length) []) x.length X0 = SL at *
  show AWp _ _ (.seq _ _) _ _
  (repeat' (first | (with_reducible first | intro hg | refine mv (by constructor) ?_) | ((with_reducible first | refine zR ?_ ?_ | refine zW mixed ?_ ?_); exact kr) | ((with_reducible apply zK); exact rfl; exact tf) | ((with_reducible apply zCD); exact rfl) | ((with_reducible apply zCN); exact rfl) | ((with_reducible apply zC); exact rfl) | ((with_reducible refine zX ?_ ?_); exact rfl) | ((with_reducible refine zE (And.intro ?_ ?_)); exact kr) | (with_reducible refine zE ?_) | ((with_reducible apply zP); exact dp) | ((with_reducible apply zN); (first | exact dn | exact o_makeSl (n := x.length) rfl (by omega) (by omega) (zr_mix x))) | ((with_reducible apply zA); exact da) | ((with_reducible apply zS); exact ds) | ((with_reducible apply zY); exact rfl; exact rfl; exact tf) | ((with_reducible apply zG); exact rfl; exact rfl; exact tf) | ((with_reducible apply zU); exact rfl; exact rfl) | ((with_reducible apply zD); exact rfl; exact rfl) | ((with_reducible apply zB); exact rfl; exact rfl)))
  refine awp_loopL (α := Nat) (fun i => [(3, .ptr 3 0), (4, .ptr 4 0), (5, .ptr 5 0), (9, .ptr 9 0), (11, .lsl 136 0 x.length 4), (12, .d (I i))]) (fun i => [(3, ⟨24, [rgV c, I den]⟩), (4, ⟨39, prfC s w⟩), (5, ⟨42, grC x cs⟩), (9, ⟨47, [I N.num, I (N.den : Int)]⟩), (136, ⟨56, ((mixL x i).map oC).flatten⟩)]) (fun i => i ≤ x.length) (fun i => x.length - i) 0 (Nat.zero_le _) (And.intro rfl (And.intro rfl (And.intro rfl (And.intro rfl (And.intro rfl (And.intro rfl trivial)))))) (And.intro rfl (And.intro rfl (And.intro rfl (And.intro rfl (And.intro rfl trivial))))) fun i hi => ?_
  by_cases hil : i < x.length
  · have hxk := hxi i
    have wi := ratioInt_A (nth x i) ⟨by omega, by omega⟩
    have hml2 : i < (mixL x i).length := by rw [mixL_len x hi]; exact hil
    have hset := mixL_set hil
    have hm : x.length - (i + 1) < x.length - i := by omega
    clear htail hrl hcb hxi hwb hnx hgt hln hS5 hle hs0 hsum sN wfr hsucc hzero hml
    (repeat' (first | (with_reducible first | intro hg | refine mv (by constructor) ?_) | ((with_reducible first | refine zR ?_ ?_ | refine zW mixed ?_ ?_); exact kr) | ((with_reducible apply zK); exact rfl; exact tf) | ((with_reducible apply zCD); exact rfl) | ((with_reducible apply zCN); exact rfl) | ((with_reducible apply zC); exact rfl) | ((with_reducible refine zX ?_ ?_); exact rfl) | ((with_reducible refine zE (And.intro ?_ ?_)); exact kr) | (with_reducible refine zE ?_) | ((with_reducible apply zP); (first | exact o_indexI (xs := x) (j := i) rfl rfl hil rfl | exact o_indexL (o := i * 4) rfl rfl (by omega) (by omega) (by omega) | exact dp | exact oc rfl (wi))) | ((with_reducible apply zN); exact dn) | ((with_reducible apply zA); exact da) | ((with_reducible apply zS); (first | exact o_storeFA (f := oC) i (some ((nth x i : Int) : Rat)) oC_len rfl rfl rfl (by omega) hml2 | exact ds)) | ((with_reducible apply zY); exact rfl; exact rfl; exact tf) | ((with_reducible apply zG); exact rfl; exact rfl; exact tf) | ((with_reducible apply zU); exact rfl; exact rfl) | ((with_reducible apply zD); exact rfl; exact rfl) | ((with_reducible apply zB); exact rfl; exact rfl)))
    exact ⟨i + 1, hil, hm, (And.intro rfl (And.intro rfl (And.intro rfl (And.intro rfl (And.intro rfl (And.intro rfl trivial)))))), (And.intro rfl (And.intro rfl (And.intro rfl (And.intro rfl (And.intro (congrArg (fun l => some (Blk.mk _ ((List.map oC l).flatten))) hset) trivial)))))⟩
  obtain rfl : i = x.length := by omega
  have hfz0 : AV.d (.slice x.length (((((mixL x x.length).map oC).flatten).drop 0).take (x.length * 4))) = .d (.slice x.length (raS (SL 0))) := by
    have hl := raS_len X0
    rw [mixL_all, ← hX0, hs0, List.drop_zero, List.take_of_length_le (by omega)]
  (repeat' (first | (with_reducible first | intro hg | refine mv (by constructor) ?_) | ((with_reducible first | refine zR ?_ ?_ | refine zW mixed ?_ ?_); exact kr) | ((with_reducible apply zK); exact rfl; exact tf) | ((with_reducible apply zCD); exact rfl) | ((with_reducible apply zCN); exact rfl) | ((with_reducible apply zC); exact rfl) | ((with_reducible refine zX ?_ ?_); exact rfl) | ((with_reducible refine zE (And.intro ?_ ?_)); exact kr) | (with_reducible refine zE ?_) | ((with_reducible apply zP); exact dp) | ((with_reducible apply zN); exact dn) | ((with_reducible apply zA); exact da) | ((with_reducible apply zS); exact ds) | ((with_reducible apply zY); exact rfl; exact rfl; exact tf) | ((with_reducible apply zG); exact rfl; exact rfl; exact tf) | ((with_reducible apply zU); exact rfl; exact rfl) | ((with_reducible apply zD); exact rfl; exact rfl) | ((with_reducible apply zB); exact rfl; exact rfl)))
  refine awp_freeze 136 rfl ?_
  refine awp_loopL (α := Nat) (fun r => [(3, .ptr 3 0), (4, .ptr 4 0), (5, .ptr 5 0), (9, .ptr 9 0), (11, .d (.slice x.length (raS (SL (r * s))))), (13, .d (I (r * s : Nat))), (14, .d (I r))]) (fun _ => [(3, ⟨24, [rgV c, I den]⟩), (4, ⟨39, prfC s w⟩), (5, ⟨42, grC x cs⟩), (9, ⟨47, [I N.num, I (N.den : Int)]⟩)]) (fun r => r ≤ 3) (fun r => 3 - r) 0 (Nat.zero_le _) (And.intro rfl (And.intro rfl (And.intro rfl (And.intro rfl (And.intro (by rw [Nat.zero_mul]; exact hfz0) (And.intro (by rw [Nat.zero_mul]; rfl) (And.intro (rfl) trivial))))))) (And.intro rfl (And.intro rfl (And.intro rfl (And.intro rfl trivial)))) fun r hr => ?_
  clear hfz0 hs0 hX0 hxi hil hi
  by_cases hr3 : r < 3
  rotate_left
  · (repeat' ((fail_if_success (with_reducible show AWp _ _ (.seq (.region 38 _ _) _) _ _)); (first | (with_reducible first | intro hg | refine mv (by constructor) ?_) | ((with_reducible first | refine zR ?_ ?_ | refine zW mixed ?_ ?_); exact kr) | ((with_reducible apply zK); exact rfl; exact tf) | ((with_reducible apply zCD); exact rfl) | ((with_reducible apply zCN); exact rfl) | ((with_reducible apply zC); exact rfl) | ((with_reducible refine zX ?_ ?_); exact rfl) | ((with_reducible refine zE (And.intro ?_ ?_)); exact kr) | (with_reducible refine zE ?_) | ((with_reducible apply zP); exact dp) | ((with_reducible apply zN); exact dn) | ((with_reducible apply zA); exact da) | ((with_reducible apply zS); exact ds) | ((with_reducible apply zY); exact rfl; exact rfl; exact tf) | ((with_reducible apply zG); exact rfl; exact rfl; exact tf) | ((with_reducible apply zU); exact rfl; exact rfl) | ((with_reducible apply zD); exact rfl; exact rfl) | ((with_reducible apply zB); exact rfl; exact rfl))))
    refine awp_cut [(3, .ptr 3 0), (4, .ptr 4 0), (5, .ptr 5 0), (9, .ptr 9 0)] [(3, ⟨24, [rgV c, I den]⟩), (4, ⟨39, prfC s w⟩), (5, ⟨42, grC x cs⟩), (9, ⟨47, [I N.num, I (N.den : Int)]⟩)] (And.intro rfl (And.intro rfl (And.intro rfl (And.intro rfl trivial)))) (And.intro rfl (And.intro rfl (And.intro rfl (And.intro rfl trivial)))) ?_
    exact htail
  clear htail
  have hrs : r * s + s ≤ 18 := by
    have h1 : (r + 1) * s ≤ 3 * 6 := Nat.mul_le_mul hr3 hs6
    rw [Nat.add_mul, Nat.one_mul] at h1
    exact h1
  have hrs1 : (r + 1) * s = r * s + s := by rw [Nat.add_mul, Nat.one_mul]
  have hle := hle (r * s)
  obtain ⟨a, ha⟩ : ∃ a, a = r * s := ⟨_, rfl⟩
  rw [← ha] at hle hrs hrs1
  rw [← ha]
  have wb := tweighted_A (SL a) w x.length (hln a) (by omega) (by omega) (hS5 a (by omega)) hwb
  have wa := tweighted_A (SL (a + s)) w x.length (hln (a + s)) (by omega) (by omega) (hS5 (a + s) hrs) hwb
  have sB := twt_S (w := w) (n := x.length) (hS5 a (by omega)) hwb (Nat.le_refl _)
  have sA := twt_S (w := w) (n := x.length) (hS5 (a + s) hrs) hwb (Nat.le_refl _)
  have wm := ratioMul_A (sN.mono (show 3 ≤ 10000 by decide)) (sB.mono (show 8 ≤ 10000 by decide))
  have wcm := ratioCmp_A (sA.mono (show 8 ≤ 10000 by decide)) ((sN.mul sB).mono (show 3 + 8 ≤ 10000 by decide))
  have hcz : ¬ 0 < cmpR (wtR w (SL (a + s)) x.length) (N * wtR w (SL a) x.length) := fun h => Rat.not_lt.2 hle (cmpR_pos.1 h)
  have hcbn := cmpR_bnd (wtR w (SL (a + s)) x.length) (N * wtR w (SL a) x.length)
  clear sA sB sN hwb hle ha
  generalize cmpR (wtR w (SL (a + s)) x.length) (N * wtR w (SL a) x.length) = cr at *
  generalize wtR w (SL (a + s)) x.length = VA at *
  generalize wtR w (SL a) x.length = VB at *
  (repeat' (first | (with_reducible first | intro hg | refine mv (by constructor) ?_) | ((with_reducible first | refine zR ?_ ?_ | refine zW mixed ?_ ?_); exact kr) | ((with_reducible apply zK); exact rfl; exact tf) | ((with_reducible apply zCD); exact rfl) | ((with_reducible apply zCN); exact rfl) | ((with_reducible apply zC); exact rfl) | ((with_reducible refine zX ?_ ?_); exact rfl) | ((with_reducible refine zE (And.intro ?_ ?_)); exact kr) | (with_reducible refine zE ?_) | ((with_reducible apply zP); (first | exact dp | exact oc rfl (wb))) | ((with_reducible apply zN); exact dn) | ((with_reducible apply zA); exact da) | ((with_reducible apply zS); exact ds) | ((with_reducible apply zY); exact rfl; exact rfl; exact tf) | ((with_reducible apply zG); exact rfl; exact rfl; exact tf) | ((with_reducible apply zU); exact rfl; exact rfl) | ((with_reducible apply zD); exact rfl; exact rfl) | ((with_reducible apply zB); exact rfl; exact rfl)))
  refine awp_loopL (α := Nat) (fun t => [(3, .ptr 3 0), (4, .ptr 4 0), (5, .ptr 5 0), (9, .ptr 9 0), (11, .d (.slice x.length (raS (SL (a + t))))), (13, .d (I (a + t : Nat))), (14, .d (I r)), (15, .ptr 15 0), (16, .d (I t))]) (fun _ => [(3, ⟨24, [rgV c, I den]⟩), (4, ⟨39, prfC s w⟩), (5, ⟨42, grC x cs⟩), (9, ⟨47, [I N.num, I (N.den : Int)]⟩), (15, ⟨56, ratC VB⟩)]) (fun t => t ≤ s) (fun t => s - t) 0 (Nat.zero_le _) (And.intro rfl (And.intro rfl (And.intro rfl (And.intro rfl (And.intro rfl (And.intro rfl (And.intro rfl (And.intro rfl (And.intro rfl trivial))))))))) (And.intro rfl (And.intro rfl (And.intro rfl (And.intro rfl (And.intro rfl trivial))))) fun t ht => ?_
  by_cases hts : t < s
  rotate_left
  · obtain rfl : t = s := by omega
    clear hrl hcb hnx hgt hln hS5 hsum hsucc hzero hml wb
    (repeat' (first | (with_reducible first | intro hg | refine mv (by constructor) ?_) | ((with_reducible first | refine zR ?_ ?_ | refine zW mixed ?_ ?_); exact kr) | ((with_reducible apply zK); exact rfl; exact tf) | ((with_reducible apply zCD); exact rfl) | ((with_reducible apply zCN); exact rfl) | ((with_reducible apply zC); exact rfl) | ((with_reducible refine zX ?_ ?_); exact rfl) | ((with_reducible refine zE (And.intro ?_ ?_)); exact kr) | (with_reducible refine zE ?_) | ((with_reducible apply zP); (first | exact dp | exact oc rfl (wa) | exact oc rfl (wfr) | exact oc rfl (wm) | exact oc rfl (wcm))) | ((with_reducible apply zN); exact dn) | ((with_reducible apply zA); exact da) | ((with_reducible apply zS); exact ds) | ((with_reducible apply zY); exact rfl; exact rfl; exact tf) | ((with_reducible apply zG); exact rfl; exact rfl; exact tf) | ((with_reducible apply zU); exact rfl; exact rfl) | ((with_reducible apply zD); exact rfl; exact rfl) | ((with_reducible apply zB); exact rfl; exact rfl)))
    exact ⟨r + 1, hr3, by omega, (And.intro rfl (And.intro rfl (And.intro rfl (And.intro rfl (And.intro (by rw [hrs1]; rfl) (And.intro (by rw [hrs1]; rfl) (And.intro (rfl) trivial))))))), (And.intro rfl (And.intro rfl (And.intro rfl (And.intro rfl trivial))))⟩
  clear wb wa wfr wm wcm hcz hcbn hrs1
  have hT17 : a + t ≤ 17 := by omega
  have hm : s - (t + 1) < s - t := by omega
  obtain ⟨T, hT⟩ : ∃ T, T = a + t := ⟨_, rfl⟩
  rw [← hT] at hT17 ⊢
  have hrl := hrl T
  have hcb := hcb T
  have hml := hml T
  have hS5 := hS5 T (by omega)
  have hsum := hsum T hT17
  have hsucc := hsucc T
  have hzero := hzero T
  have hnx := hnx T
  have hgt := hgt T
  have hlT := hln T
  have hlT1 := hln (T + 1)
  have hmI : (T : Int).tmod (cs.length : Int) = ((T % cs.length : Nat) : Int) := by
    rw [Int.tmod_eq_emod_of_nonneg (by omega), ← Int.natCast_emod]
  obtain ⟨S1, hS1⟩ : ∃ S, S = SL (T + 1) := ⟨_, rfl⟩
  have hfin : SL (a + (t + 1)) = S1 := by rw [hS1, hT, Nat.add_assoc]
  have h13 : ((T + 1 : Nat) : Int) = ((a + (t + 1) : Nat) : Int) := by omega
  rw [← hS1] at hnx hlT1
  clear hln hT hrs hS1
  obtain ⟨j, hj⟩ : ∃ j, j = T % cs.length := ⟨_, rfl⟩
  rw [← hj] at hml hmI hrl hcb hsum hsucc hzero hnx
  obtain ⟨row, hrw⟩ : ∃ row, row = cs.getD j [] := ⟨_, rfl⟩
  rw [← hrw] at hrl hcb hsum hsucc hzero hnx
  generalize SL T = S0 at *
  generalize ST T = H0 at *
  have wz : AC Tryz.prog 22 [.val (.int .i64 0)] (ratV (tkS den row 0 H0 0)) := by rw [hzero]; exact ratioInt_A 0 ⟨by decide, by decide⟩
  (repeat' (first | (with_reducible first | intro hg | refine mv (by constructor) ?_) | ((with_reducible first | refine zR ?_ ?_ | refine zW mixed ?_ ?_); exact kr) | ((with_reducible apply zK); exact rfl; exact tf) | ((with_reducible apply zCD); exact rfl) | ((with_reducible apply zCN); exact rfl) | ((with_reducible apply zC); exact rfl) | ((with_reducible refine zX ?_ ?_); exact rfl) | ((with_reducible refine zE (And.intro ?_ ?_)); exact kr) | (with_reducible refine zE ?_) | ((with_reducible apply zP); (first | exact o_rem (r := (j : Int)) rfl rfl (by omega) (by exact hmI) | exact o_indexF [] (j := j) (xs := cs) llC_len (by decide) rfl rfl hml rfl | exact dp | exact oc rfl (wz))) | ((with_reducible apply zN); exact dn) | ((with_reducible apply zA); exact da) | ((with_reducible apply zS); exact ds) | ((with_reducible apply zY); exact rfl; exact rfl; exact tf) | ((with_reducible apply zG); exact rfl; exact rfl; exact tf) | ((with_reducible apply zU); exact rfl; exact rfl) | ((with_reducible apply zD); exact rfl; exact rfl) | ((with_reducible apply zB); exact rfl; exact rfl)))
  clear wz hzero hmI
  refine awp_loopL (α := Nat) (fun i => [(3, .ptr 3 0), (4, .ptr 4 0), (5, .ptr 5 0), (9, .ptr 9 0), (11, .d (.slice x.length (raS S0))), (13, .d (I (T + 1 : Nat))), (14, .d (I r)), (15, .ptr 15 0), (16, .d (I t)), (17, .d (isl row)), (18, .ptr 18 0), (19, .d (I i))]) (fun i => [(3, ⟨24, [rgV c, I den]⟩), (4, ⟨39, prfC s w⟩), (5, ⟨42, grC x cs⟩), (9, ⟨47, [I N.num, I (N.den : Int)]⟩), (15, ⟨56, ratC VB⟩), (18, ⟨56, ratC (tkS den row 0 H0 i)⟩)]) (fun i => i ≤ x.length) (fun i => x.length - i) 0 (Nat.zero_le _) (And.intro rfl (And.intro rfl (And.intro rfl (And.intro rfl (And.intro rfl (And.intro rfl (And.intro rfl (And.intro rfl (And.intro rfl (And.intro (congrArg (fun r => AV.d (isl r)) hrw.symm) (And.intro (rfl) (And.intro (rfl) trivial)))))))))))) (And.intro rfl (And.intro rfl (And.intro rfl (And.intro rfl (And.intro rfl (And.intro rfl trivial)))))) fun i hi => ?_
  by_cases hil : i < x.length
  · have hci := hcb i
    have hirl : i < row.length := by omega
    have w1 := ratioOf_A (nth row i) den ⟨by omega, by omega⟩ ⟨by omega, by omega⟩ (by omega)
    have s1 := divInt_ratS (a := nth row i) (b := den) (by omega) (by omega) (by omega)
    have hsu := hsucc i
    rw [← hgt i hil] at hsu
    have w2 := ratioMul_A (s1.mono (show 3 ≤ 10000 by decide)) ((hS5 i).mono (show 5 ≤ 10000 by decide))
    have w3 := ratioAdd_A ((hsum i hi).mono (show 5 ≤ 10000 by decide)) ((s1.mul (hS5 i)).mono (show 3 + 5 ≤ 10000 by decide))
    rw [← hsu] at w3
    have hmm : x.length - (i + 1) < x.length - i := by omega
    clear hcb hsum hsucc hsu hS5 s1 hci hgt hnx
    (repeat' (first | (with_reducible first | intro hg | refine mv (by constructor) ?_) | ((with_reducible first | refine zR ?_ ?_ | refine zW mixed ?_ ?_); exact kr) | ((with_reducible apply zK); exact rfl; exact tf) | ((with_reducible apply zCD); exact rfl) | ((with_reducible apply zCN); exact rfl) | ((with_reducible apply zC); exact rfl) | ((with_reducible refine zX ?_ ?_); exact rfl) | ((with_reducible refine zE (And.intro ?_ ?_)); exact kr) | (with_reducible refine zE ?_) | ((with_reducible apply zP); (first | exact o_indexI (xs := row) (j := i) rfl rfl hirl rfl | exact o_indexF (0 : Rat) (j := i) (xs := S0) ratC_len (by decide) rfl rfl hil hlT.symm | exact dp | exact oc rfl (w1) | exact oc rfl (w2) | exact oc rfl (w3))) | ((with_reducible apply zN); exact dn) | ((with_reducible apply zA); exact da) | ((with_reducible apply zS); exact ds) | ((with_reducible apply zY); exact rfl; exact rfl; exact tf) | ((with_reducible apply zG); exact rfl; exact rfl; exact tf) | ((with_reducible apply zU); exact rfl; exact rfl) | ((with_reducible apply zD); exact rfl; exact rfl) | ((with_reducible apply zB); exact rfl; exact rfl)))
    exact ⟨i + 1, hil, hmm, (And.intro rfl (And.intro rfl (And.intro rfl (And.intro rfl (And.intro rfl (And.intro rfl (And.intro rfl (And.intro rfl (And.intro rfl (And.intro rfl (And.intro rfl (And.intro rfl trivial)))))))))))), (And.intro rfl (And.intro rfl (And.intro rfl (And.intro rfl (And.intro rfl (And.intro rfl trivial))))))⟩
  obtain rfl : i = x.length := by omega
  obtain ⟨m, hmx⟩ : ∃ m, x.length = m + 1 := ⟨x.length - 1, by omega⟩
  have hslr := raS_len S0
  generalize tkS den row 0 H0 x.length = z at *
  clear hcb hsum hsucc hS5 hgt
  (repeat' ((fail_if_success (with_reducible show AWp _ _ (.region 33 _ _) _ _)); (first | (with_reducible first | intro hg | refine mv (by constructor) ?_) | ((with_reducible first | refine zR ?_ ?_ | refine zW mixed ?_ ?_); exact kr) | ((with_reducible apply zK); exact rfl; exact tf) | ((with_reducible apply zCD); exact rfl) | ((with_reducible apply zCN); exact rfl) | ((with_reducible apply zC); exact rfl) | ((with_reducible refine zX ?_ ?_); exact rfl) | ((with_reducible refine zE (And.intro ?_ ?_)); exact kr) | (with_reducible refine zE ?_) | ((with_reducible apply zP); exact dp) | ((with_reducible apply zN); exact dn) | ((with_reducible apply zA); exact da) | ((with_reducible apply zS); exact ds) | ((with_reducible apply zY); exact rfl; exact rfl; exact tf) | ((with_reducible apply zG); exact rfl; exact rfl; exact tf) | ((with_reducible apply zU); exact rfl; exact rfl) | ((with_reducible apply zD); exact rfl; exact rfl) | ((with_reducible apply zB); exact rfl; exact rfl))))
  refine awp_cut [(3, .ptr 3 0), (4, .ptr 4 0), (5, .ptr 5 0), (9, .ptr 9 0), (11, .d (.slice (m + 1) (raS S0))), (13, .d (I (T + 1 : Nat))), (14, .d (I r)), (15, .ptr 15 0), (16, .d (I t)), (18, .ptr 18 0)] [(3, ⟨24, [rgV c, I den]⟩), (4, ⟨39, prfC s w⟩), (5, ⟨42, grC x cs⟩), (9, ⟨47, [I N.num, I (N.den : Int)]⟩), (15, ⟨56, ratC VB⟩), (18, ⟨56, ratC z⟩)] (And.intro rfl (And.intro rfl (And.intro rfl (And.intro rfl (And.intro (congrArg (fun n : Nat => AV.d (.slice n (raS S0))) hmx) (And.intro (rfl) (And.intro (rfl) (And.intro (rfl) (And.intro (rfl) (And.intro (rfl) trivial)))))))))) (And.intro rfl (And.intro rfl (And.intro rfl (And.intro rfl (And.intro rfl (And.intro rfl trivial)))))) ?_
  have hcells : ratC z ++ (raS S0).take (m * 4) = raS S1 := by
    rw [hnx, hmx, raS_takeT]; rfl
  have hsr2 := raS_len S1
  have hfz : ∀ l : List DV, l = raS S1 → AV.d (.slice (m + 1) ((l.drop 0).take ((m + 1) * 4))) = .d (.slice x.length (raS S1)) := fun l hl => by
    subst hl
    rw [List.drop_zero, List.take_of_length_le (by omega), hmx]
  have htk : ((raS S0).take (m * 4)).length = m * 4 := by rw [List.length_take]; omega
  generalize raS S0 = S8 at *
  clear hnx
  rcases m with _ | m
  · have hcells : ratC z = raS S1 := by rw [← hcells, Nat.zero_mul, List.take_zero, List.append_nil]
    (repeat' ((fail_if_success (with_reducible show AWp _ _ (.region 35 _ _) _ _)); (first | (with_reducible first | intro hg | refine mv (by constructor) ?_) | ((with_reducible first | refine zR ?_ ?_ | refine zW mixed ?_ ?_); exact kr) | ((with_reducible apply zK); exact rfl; exact tf) | ((with_reducible apply zCD); exact rfl) | ((with_reducible apply zCN); exact rfl) | ((with_reducible apply zC); exact rfl) | ((with_reducible refine zX ?_ ?_); exact rfl) | ((with_reducible refine zE (And.intro ?_ ?_)); exact kr) | (with_reducible refine zE ?_) | ((with_reducible apply zP); (first | exact o_sliceH (h := 0) rfl rfl (by omega) | exact dp)) | ((with_reducible apply zN); exact dn) | ((with_reducible apply zA); exact da) | ((with_reducible apply zS); exact ds) | ((with_reducible apply zY); exact rfl; exact rfl; exact tf) | ((with_reducible apply zG); exact rfl; exact rfl; exact tf) | ((with_reducible apply zU); exact rfl; exact rfl) | ((with_reducible apply zD); exact rfl; exact rfl) | ((with_reducible apply zB); exact rfl; exact rfl))))
    refine awp_freeze 200 rfl ?_
    (repeat' (first | (with_reducible first | intro hg | refine mv (by constructor) ?_) | ((with_reducible first | refine zR ?_ ?_ | refine zW mixed ?_ ?_); exact kr) | ((with_reducible apply zK); exact rfl; exact tf) | ((with_reducible apply zCD); exact rfl) | ((with_reducible apply zCN); exact rfl) | ((with_reducible apply zC); exact rfl) | ((with_reducible refine zX ?_ ?_); exact rfl) | ((with_reducible refine zE (And.intro ?_ ?_)); exact kr) | (with_reducible refine zE ?_) | ((with_reducible apply zP); exact dp) | ((with_reducible apply zN); exact dn) | ((with_reducible apply zA); exact da) | ((with_reducible apply zS); exact ds) | ((with_reducible apply zY); exact rfl; exact rfl; exact tf) | ((with_reducible apply zG); exact rfl; exact rfl; exact tf) | ((with_reducible apply zU); exact rfl; exact rfl) | ((with_reducible apply zD); exact rfl; exact rfl) | ((with_reducible apply zB); exact rfl; exact rfl)))
    exact ⟨t + 1, hts, hm, (And.intro rfl (And.intro rfl (And.intro rfl (And.intro rfl (And.intro ((hfz _ hcells).trans (by rw [hfin])) (And.intro (congrArg (fun n : Int => AV.d (I n)) h13) (And.intro (rfl) (And.intro (rfl) (And.intro (rfl) trivial))))))))), (And.intro rfl (And.intro rfl (And.intro rfl (And.intro rfl (And.intro rfl trivial)))))⟩
  · have hm1c : ((m + 1 + 1 : Nat) : Int) - 1 = ((m + 1 : Nat) : Int) := by omega
    have hap : (1 : Nat) + (m + 1) = m + 1 + 1 := by omega
    (repeat' ((fail_if_success (with_reducible show AWp _ _ (.region 35 _ _) _ _)); (first | (with_reducible first | intro hg | refine mv (by constructor) ?_) | ((with_reducible first | refine zR ?_ ?_ | refine zW mixed ?_ ?_); exact kr) | ((with_reducible apply zK); exact rfl; exact tf) | ((with_reducible apply zCD); exact rfl) | ((with_reducible apply zCN); exact rfl) | ((with_reducible apply zC); exact rfl) | ((with_reducible refine zX ?_ ?_); exact rfl) | ((with_reducible refine zE (And.intro ?_ ?_)); exact kr) | (with_reducible refine zE ?_) | ((with_reducible apply zP); (first | exact o_sliceH (h := m + 1) rfl (congrArg (fun n : Int => AV.d (I n)) hm1c) (by omega) | exact dp)) | ((with_reducible apply zN); exact dn) | ((with_reducible apply zA); (first | ((apply o_app); (case hx => exact rfl); (case hm => exact rfl); (case hy => exact .own rfl rfl); (case hty => exact rfl); (case hl => solve | exact htk | rfl); (case hcl => solve | rfl | exact htk | simp); (case hpos => omega); (case hb => omega); (case hb2 => omega); (case hnew => exact rfl)) | ((apply o_app); (case hx => exact rfl); (case hm => exact rfl); (case hy => exact .sl rfl); (case hty => exact rfl); (case hl => solve | exact htk | rfl); (case hcl => solve | rfl | exact htk | simp); (case hpos => omega); (case hb => omega); (case hb2 => omega); (case hnew => exact rfl)) | exact da)) | ((with_reducible apply zS); exact ds) | ((with_reducible apply zY); exact rfl; exact rfl; exact tf) | ((with_reducible apply zG); exact rfl; exact rfl; exact tf) | ((with_reducible apply zU); exact rfl; exact rfl) | ((with_reducible apply zD); exact rfl; exact rfl) | ((with_reducible apply zB); exact rfl; exact rfl))))
    have hfz2 : ∀ l : List DV, l = raS S1 → AV.d (.slice (1 + (m + 1)) ((l.drop 0).take ((1 + (m + 1)) * 4))) = .d (.slice x.length (raS S1)) := by rw [hap]; exact hfz
    refine awp_freeze 207 rfl ?_
    (repeat' (first | (with_reducible first | intro hg | refine mv (by constructor) ?_) | ((with_reducible first | refine zR ?_ ?_ | refine zW mixed ?_ ?_); exact kr) | ((with_reducible apply zK); exact rfl; exact tf) | ((with_reducible apply zCD); exact rfl) | ((with_reducible apply zCN); exact rfl) | ((with_reducible apply zC); exact rfl) | ((with_reducible refine zX ?_ ?_); exact rfl) | ((with_reducible refine zE (And.intro ?_ ?_)); exact kr) | (with_reducible refine zE ?_) | ((with_reducible apply zP); exact dp) | ((with_reducible apply zN); exact dn) | ((with_reducible apply zA); exact da) | ((with_reducible apply zS); exact ds) | ((with_reducible apply zY); exact rfl; exact rfl; exact tf) | ((with_reducible apply zG); exact rfl; exact rfl; exact tf) | ((with_reducible apply zU); exact rfl; exact rfl) | ((with_reducible apply zD); exact rfl; exact rfl) | ((with_reducible apply zB); exact rfl; exact rfl)))
    exact ⟨t + 1, hts, hm, (And.intro rfl (And.intro rfl (And.intro rfl (And.intro rfl (And.intro ((hfz2 _ hcells).trans (by rw [hfin])) (And.intro (congrArg (fun n : Int => AV.d (I n)) h13) (And.intro (rfl) (And.intro (rfl) (And.intro (rfl) trivial))))))))), (And.intro rfl (And.intro rfl (And.intro rfl (And.intro rfl (And.intro rfl trivial)))))⟩

end Go.Proofs.YtfcfmpdpjmbcnaaGreatDoor
