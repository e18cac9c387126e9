/- Numerals and pieces, by the reference: walks. -/
import Derived.Test.YtfcfmpdpjmbcnaaGreatDoorNu
set_option linter.unusedVariables false
set_option linter.unusedSimpArgs false
namespace Go.Proofs.YtfcfmpdpjmbcnaaGreatDoor
open Go.RowKit
set_option maxRecDepth 20000
set_option maxHeartbeats 8000000

theorem wrU {n : Int} (h0 : 0 ≤ n) (h1 : n ≤ 255) : IntKind.u8.wrap n = n := by
  have e : (2 : Int) ^ IntKind.u8.bits = 256 := rfl
  have hs : IntKind.u8.signed = false := rfl
  unfold IntKind.wrap
  simp only [e, hs, Bool.false_and, Bool.false_eq_true, if_false]
  omega
theorem sizeB_A (n : Int) (hn : -1000 ≤ n ∧ n ≤ 1000) : AC Tryz.prog 101 [I n] (I n.natAbs) := by
  refine ac_body Tryz.func101 rfl (by kernel_rfl) fun w0 ok => ?_; show AWp _ (ctx0 w0 ok _) _ (ARet _ _ _) (entry _)
  (repeat' (first | (with_reducible first | intro hg | refine mv (by constructor) ?_) | ((with_reducible first | refine zR ?_ ?_ | refine zW mixed ?_ ?_); exact kr) | ((with_reducible apply zK); exact rfl; exact tf) | ((with_reducible apply zCD); exact rfl) | ((with_reducible apply zCN); exact rfl) | ((with_reducible apply zC); exact rfl) | ((with_reducible refine zX ?_ ?_); exact rfl) | ((with_reducible refine zE (And.intro ?_ ?_)); exact kr) | (with_reducible refine zE ?_) | ((with_reducible apply zP); exact dp) | ((with_reducible apply zN); exact dn) | ((with_reducible apply zA); exact da) | ((with_reducible apply zS); exact ds) | ((with_reducible apply zY); exact rfl; exact rfl; exact tf) | ((with_reducible apply zG); exact rfl; exact rfl; exact tf) | ((with_reducible apply zU); exact rfl; exact rfl) | ((with_reducible apply zD); exact rfl; exact rfl) | ((with_reducible apply zB); exact rfl; exact rfl)))
  ((with_reducible first | apply q_retR | apply q_retN); exact rl)
  exact rt_int (by omega)
theorem dl_len (u : Nat) (h : u < 10000000000000000000) : (dl u).length ≤ 19 := by
  have key : ∀ (k u : Nat), u < 10 ^ k → (dl u).length ≤ k := fun k => by
    induction k with
    | zero =>
      intro u hu
      obtain rfl : u = 0 := by omega
      rw [dl_zero]; exact Nat.le_refl _
    | succ k ih =>
      intro u hu
      by_cases h0 : u = 0
      · subst h0; rw [dl_zero]; exact Nat.zero_le _
      · rw [dl_pos (by omega), List.length_append, List.length_singleton]
        have := ih (u / 10) (by rw [Nat.pow_succ] at hu; omega)
        omega
  exact key 19 u h
theorem leM_ownB {s : AS} {nm : Nat} {t : TypeId} {cs : List DV} {n : Nat} (h : ∀ k, n = k + 1 → s.mem nm = some ⟨t, cs⟩) : leM s (ownM nm t cs n) := by
  cases n with
  | zero => trivial
  | succ k => exact ⟨h k rfl, trivial⟩
theorem decimal_A (n : Int) (hn : I64 n) : AC Tryz.prog 51 [I n] (T8 (Lib.itoa n)) := by
  obtain ⟨hn1, hn2⟩ := hn
  have hlen := dl_len n.natAbs (by omega)
  by_cases h0 : n = 0
  · subst h0
    rw [itoa_zero]
    refine ac_body Tryz.func51 rfl (by kernel_rfl) fun w0 ok => ?_; show AWp _ (ctx0 w0 ok _) _ (ARet _ _ _) (entry _)
    (repeat' (first | (with_reducible first | intro hg | refine mv (by constructor) ?_) | ((with_reducible first | refine zR ?_ ?_ | refine zW mixed ?_ ?_); exact kr) | ((with_reducible apply zK); exact rfl; exact tf) | ((with_reducible apply zCD); exact rfl) | ((with_reducible apply zCN); exact rfl) | ((with_reducible apply zC); exact rfl) | ((with_reducible refine zX ?_ ?_); exact rfl) | ((with_reducible refine zE (And.intro ?_ ?_)); exact kr) | (with_reducible refine zE ?_) | ((with_reducible apply zP); exact dp) | ((with_reducible apply zN); exact dn) | ((with_reducible apply zA); exact da) | ((with_reducible apply zS); exact ds) | ((with_reducible apply zY); exact rfl; exact rfl; exact tf) | ((with_reducible apply zG); exact rfl; exact rfl; exact tf) | ((with_reducible apply zU); exact rfl; exact rfl) | ((with_reducible apply zD); exact rfl; exact rfl) | ((with_reducible apply zB); exact rfl; exact rfl)))
    ((with_reducible first | apply q_retR | apply q_retN); exact rl)
    rfl
  by_cases hneg : n < 0
  · rw [show Lib.itoa n = [45] ++ dl n.natAbs by rw [itoa_neg hneg]; rfl]
    refine ac_body Tryz.func51 rfl (by kernel_rfl) fun w0 ok => ?_; show AWp _ (ctx0 w0 ok _) _ (ARet _ _ _) (entry _)
    (repeat' (first | (with_reducible first | intro hg | refine mv (by constructor) ?_) | ((with_reducible first | refine zR ?_ ?_ | refine zW mixed ?_ ?_); exact kr) | ((with_reducible apply zK); exact rfl; exact tf) | ((with_reducible apply zCD); exact rfl) | ((with_reducible apply zCN); exact rfl) | ((with_reducible apply zC); exact rfl) | ((with_reducible refine zX ?_ ?_); exact rfl) | ((with_reducible refine zE (And.intro ?_ ?_)); exact kr) | (with_reducible refine zE ?_) | ((with_reducible apply zP); exact dp) | ((with_reducible apply zN); exact dn) | ((with_reducible apply zA); exact da) | ((with_reducible apply zS); exact ds) | ((with_reducible apply zY); exact rfl; exact rfl; exact tf) | ((with_reducible apply zG); exact rfl; exact rfl; exact tf) | ((with_reducible apply zU); exact rfl; exact rfl) | ((with_reducible apply zD); exact rfl; exact rfl) | ((with_reducible apply zB); exact rfl; exact rfl)))
    refine awp_loopL2 (fun (m : Int) (l : List UInt8) => [(0, .d (I m)), (3, .d (T8 l)), (4, .d (T8 [45]))]) (fun _ _ => []) (fun m l => -9223372036854775808 ≤ m ∧ m ≤ 9223372036854775807 ∧ dl m.natAbs ++ l = dl n.natAbs) (fun m _ => m.natAbs) n [] ⟨hn1, hn2, List.append_nil _⟩ (And.intro rfl (And.intro rfl (And.intro rfl trivial))) trivial fun m l ⟨hm1, hm2, hd⟩ => ?_
    have hll : (dl m.natAbs).length + l.length = (dl n.natAbs).length := by rw [← hd, List.length_append]
    by_cases hm : m = 0
    · subst hm
      have hl : l = dl n.natAbs := by rw [← hd]; show l = dl 0 ++ l; rw [dl_zero]; rfl
      subst hl
      (repeat' (first | (with_reducible first | intro hg | refine mv (by constructor) ?_) | ((with_reducible first | refine zR ?_ ?_ | refine zW mixed ?_ ?_); exact kr) | ((with_reducible apply zK); exact rfl; exact tf) | ((with_reducible apply zCD); exact rfl) | ((with_reducible apply zCN); exact rfl) | ((with_reducible apply zC); exact rfl) | ((with_reducible refine zX ?_ ?_); exact rfl) | ((with_reducible refine zE (And.intro ?_ ?_)); exact kr) | (with_reducible refine zE ?_) | ((with_reducible apply zP); (first | exact o_addT rfl rfl (by simp) (by omega) | exact dp)) | ((with_reducible apply zN); exact dn) | ((with_reducible apply zA); exact da) | ((with_reducible apply zS); exact ds) | ((with_reducible apply zY); exact rfl; exact rfl; exact tf) | ((with_reducible apply zG); exact rfl; exact rfl; exact tf) | ((with_reducible apply zU); exact rfl; exact rfl) | ((with_reducible apply zD); exact rfl; exact rfl) | ((with_reducible apply zB); exact rfl; exact rfl)))
      ((with_reducible first | apply q_retR | apply q_retN); exact rl)
      rfl
    · have h1 : (m.tmod 10).natAbs = m.natAbs % 10 := Int.natAbs_tmod m 10
      have h2 : (m.tdiv 10).natAbs = m.natAbs / 10 := Int.natAbs_tdiv m 10
      have h3 : dl m.natAbs = dl (m.tdiv 10).natAbs ++ [UInt8.ofNat (48 + (m.tmod 10).natAbs)] := by rw [dl_pos (by omega), h1, h2]
      obtain ⟨q, hq2⟩ : ∃ q, q = m.tdiv 10 := ⟨_, rfl⟩
      rw [← hq2] at h2 h3
      have hq : IntKind.i64.wrap (m.tdiv 10) = q := by rw [← hq2]; exact wr (by omega)
      clear hq2
      generalize hr : m.tmod 10 = r at *
      have hs := sizeB_A r (by omega)
      have hcv : IntKind.u8.wrap (48 + (r.natAbs : Int)) = ((UInt8.ofNat (48 + r.natAbs)).toNat : Int) := by
        rw [wrU (by omega) (by omega), dig_of (by omega)]; omega
      (repeat' (first | (with_reducible first | intro hg | refine mv (by constructor) ?_) | ((with_reducible first | refine zR ?_ ?_ | refine zW mixed ?_ ?_); exact kr) | ((with_reducible apply zK); exact rfl; exact tf) | ((with_reducible apply zCD); exact rfl) | ((with_reducible apply zCN); exact rfl) | ((with_reducible apply zC); exact rfl) | ((with_reducible refine zX ?_ ?_); exact rfl) | ((with_reducible refine zE (And.intro ?_ ?_)); exact kr) | (with_reducible refine zE ?_) | ((with_reducible apply zP); (first | exact o_rem rfl rfl (by decide) hr | exact o_quo rfl rfl (by decide) hq | exact o_conv rfl hcv | exact o_buildSlD rfl (by decide) rfl | exact o_convBT (l := [UInt8.ofNat (48 + r.natAbs)]) rfl rfl (by simp) | exact o_addT (a := [UInt8.ofNat (48 + r.natAbs)]) (b := l) rfl rfl (by simp) (by omega) | exact dp | exact oc rfl (hs))) | ((with_reducible apply zN); exact dn) | ((with_reducible apply zA); exact da) | ((with_reducible apply zS); exact ds) | ((with_reducible apply zY); exact rfl; exact rfl; exact tf) | ((with_reducible apply zG); exact rfl; exact rfl; exact tf) | ((with_reducible apply zU); exact rfl; exact rfl) | ((with_reducible apply zD); exact rfl; exact rfl) | ((with_reducible apply zB); exact rfl; exact rfl)))
      exact ⟨q, [UInt8.ofNat (48 + r.natAbs)] ++ l, ⟨by omega, by omega, by rw [← hd, h3, List.append_assoc]⟩, by omega, (And.intro rfl (And.intro rfl (And.intro rfl trivial))), trivial⟩
  · rw [show Lib.itoa n = [] ++ dl n.natAbs by rw [itoa_pos (by omega), show n.toNat = n.natAbs by omega]; rfl]
    refine ac_body Tryz.func51 rfl (by kernel_rfl) fun w0 ok => ?_; show AWp _ (ctx0 w0 ok _) _ (ARet _ _ _) (entry _)
    (repeat' (first | (with_reducible first | intro hg | refine mv (by constructor) ?_) | ((with_reducible first | refine zR ?_ ?_ | refine zW mixed ?_ ?_); exact kr) | ((with_reducible apply zK); exact rfl; exact tf) | ((with_reducible apply zCD); exact rfl) | ((with_reducible apply zCN); exact rfl) | ((with_reducible apply zC); exact rfl) | ((with_reducible refine zX ?_ ?_); exact rfl) | ((with_reducible refine zE (And.intro ?_ ?_)); exact kr) | (with_reducible refine zE ?_) | ((with_reducible apply zP); exact dp) | ((with_reducible apply zN); exact dn) | ((with_reducible apply zA); exact da) | ((with_reducible apply zS); exact ds) | ((with_reducible apply zY); exact rfl; exact rfl; exact tf) | ((with_reducible apply zG); exact rfl; exact rfl; exact tf) | ((with_reducible apply zU); exact rfl; exact rfl) | ((with_reducible apply zD); exact rfl; exact rfl) | ((with_reducible apply zB); exact rfl; exact rfl)))
    refine awp_loopL2 (fun (m : Int) (l : List UInt8) => [(0, .d (I m)), (3, .d (T8 l)), (4, .d (T8 []))]) (fun _ _ => []) (fun m l => -9223372036854775808 ≤ m ∧ m ≤ 9223372036854775807 ∧ dl m.natAbs ++ l = dl n.natAbs) (fun m _ => m.natAbs) n [] ⟨hn1, hn2, List.append_nil _⟩ (And.intro rfl (And.intro rfl (And.intro rfl trivial))) trivial fun m l ⟨hm1, hm2, hd⟩ => ?_
    have hll : (dl m.natAbs).length + l.length = (dl n.natAbs).length := by rw [← hd, List.length_append]
    by_cases hm : m = 0
    · subst hm
      have hl : l = dl n.natAbs := by rw [← hd]; show l = dl 0 ++ l; rw [dl_zero]; rfl
      subst hl
      (repeat' (first | (with_reducible first | intro hg | refine mv (by constructor) ?_) | ((with_reducible first | refine zR ?_ ?_ | refine zW mixed ?_ ?_); exact kr) | ((with_reducible apply zK); exact rfl; exact tf) | ((with_reducible apply zCD); exact rfl) | ((with_reducible apply zCN); exact rfl) | ((with_reducible apply zC); exact rfl) | ((with_reducible refine zX ?_ ?_); exact rfl) | ((with_reducible refine zE (And.intro ?_ ?_)); exact kr) | (with_reducible refine zE ?_) | ((with_reducible apply zP); (first | exact o_addT rfl rfl (by simp) (by omega) | exact dp)) | ((with_reducible apply zN); exact dn) | ((with_reducible apply zA); exact da) | ((with_reducible apply zS); exact ds) | ((with_reducible apply zY); exact rfl; exact rfl; exact tf) | ((with_reducible apply zG); exact rfl; exact rfl; exact tf) | ((with_reducible apply zU); exact rfl; exact rfl) | ((with_reducible apply zD); exact rfl; exact rfl) | ((with_reducible apply zB); exact rfl; exact rfl)))
      ((with_reducible first | apply q_retR | apply q_retN); exact rl)
      rfl
    · have h1 : (m.tmod 10).natAbs = m.natAbs % 10 := Int.natAbs_tmod m 10
      have h2 : (m.tdiv 10).natAbs = m.natAbs / 10 := Int.natAbs_tdiv m 10
      have h3 : dl m.natAbs = dl (m.tdiv 10).natAbs ++ [UInt8.ofNat (48 + (m.tmod 10).natAbs)] := by rw [dl_pos (by omega), h1, h2]
      obtain ⟨q, hq2⟩ : ∃ q, q = m.tdiv 10 := ⟨_, rfl⟩
      rw [← hq2] at h2 h3
      have hq : IntKind.i64.wrap (m.tdiv 10) = q := by rw [← hq2]; exact wr (by omega)
      clear hq2
      generalize hr : m.tmod 10 = r at *
      have hs := sizeB_A r (by omega)
      have hcv : IntKind.u8.wrap (48 + (r.natAbs : Int)) = ((UInt8.ofNat (48 + r.natAbs)).toNat : Int) := by
        rw [wrU (by omega) (by omega), dig_of (by omega)]; omega
      (repeat' (first | (with_reducible first | intro hg | refine mv (by constructor) ?_) | ((with_reducible first | refine zR ?_ ?_ | refine zW mixed ?_ ?_); exact kr) | ((with_reducible apply zK); exact rfl; exact tf) | ((with_reducible apply zCD); exact rfl) | ((with_reducible apply zCN); exact rfl) | ((with_reducible apply zC); exact rfl) | ((with_reducible refine zX ?_ ?_); exact rfl) | ((with_reducible refine zE (And.intro ?_ ?_)); exact kr) | (with_reducible refine zE ?_) | ((with_reducible apply zP); (first | exact o_rem rfl rfl (by decide) hr | exact o_quo rfl rfl (by decide) hq | exact o_conv rfl hcv | exact o_buildSlD rfl (by decide) rfl | exact o_convBT (l := [UInt8.ofNat (48 + r.natAbs)]) rfl rfl (by simp) | exact o_addT (a := [UInt8.ofNat (48 + r.natAbs)]) (b := l) rfl rfl (by simp) (by omega) | exact dp | exact oc rfl (hs))) | ((with_reducible apply zN); exact dn) | ((with_reducible apply zA); exact da) | ((with_reducible apply zS); exact ds) | ((with_reducible apply zY); exact rfl; exact rfl; exact tf) | ((with_reducible apply zG); exact rfl; exact rfl; exact tf) | ((with_reducible apply zU); exact rfl; exact rfl) | ((with_reducible apply zD); exact rfl; exact rfl) | ((with_reducible apply zB); exact rfl; exact rfl)))
      exact ⟨q, [UInt8.ofNat (48 + r.natAbs)] ++ l, ⟨by omega, by omega, by rw [← hd, h3, List.append_assoc]⟩, by omega, (And.intro rfl (And.intro rfl (And.intro rfl trivial))), trivial⟩

/-- A string cut at a byte. -/
theorem cut_O (l : List UInt8) (c : UInt8) (hl : l.length ≤ 1000000) : ACo Tryz.prog 49 [T8 l, U8 c] 9 (cutA c [] l).length 1 ((cutA c [] l).map T8) := by
  refine aco_body Tryz.func49 rfl (by kernel_rfl) fun w0 ok => ?_; show AWp _ (ctx0 w0 ok _) _ (ARetO _ _ _ _ _) (entry _)
  (repeat' (first | (with_reducible first | intro hg | refine mv (by constructor) ?_) | ((with_reducible first | refine zR ?_ ?_ | refine zW mixed ?_ ?_); exact kr) | ((with_reducible apply zK); exact rfl; exact tf) | ((with_reducible apply zCD); exact rfl) | ((with_reducible apply zCN); exact rfl) | ((with_reducible apply zC); exact rfl) | ((with_reducible refine zX ?_ ?_); exact rfl) | ((with_reducible refine zE (And.intro ?_ ?_)); exact kr) | (with_reducible refine zE ?_) | ((with_reducible apply zP); exact dp) | ((with_reducible apply zN); exact dn) | ((with_reducible apply zA); exact da) | ((with_reducible apply zS); exact ds) | ((with_reducible apply zY); exact rfl; exact rfl; exact tf) | ((with_reducible apply zG); exact rfl; exact rfl; exact tf) | ((with_reducible apply zU); exact rfl; exact rfl) | ((with_reducible apply zD); exact rfl; exact rfl) | ((with_reducible apply zB); exact rfl; exact rfl)))
  refine awp_loopL3 (fun (i f : Nat) (ps : List (List UInt8)) => [(0, .d (T8 l)), (1, .d (U8 c)), (5, ownZ 25 1 ps.length), (6, .d (I f)), (7, .d (I i))]) (fun _ _ ps => ownM 25 9 (ps.map T8) ps.length)
    (fun i f ps => i ≤ l.length ∧ f ≤ i ∧ ps.length ≤ i ∧ ps ++ cutA c ((l.drop f).take (i - f)) (l.drop i) = cutA c [] l) (fun i _ _ => l.length - i) 0 0 [] ⟨Nat.zero_le _, Nat.le_refl _, Nat.le_refl _, rfl⟩ (And.intro rfl (And.intro rfl (And.intro rfl (And.intro rfl (And.intro rfl trivial))))) trivial fun i f ps ⟨hi, hf, hp, hc⟩ => ?_
  by_cases hlt : i < l.length
  rotate_left
  · obtain rfl : i = l.length := by omega
    have hcur : (l.drop f).take (l.length - f) = l.drop f := List.take_of_length_le (by rw [List.length_drop]; exact Nat.le_refl _)
    rw [List.drop_length, hcur] at hc
    have hc : ps ++ [l.drop f] = cutA c [] l := hc
    rw [← hc, List.length_append, List.map_append]
    rcases ps with _ | ⟨p, ps⟩
    · (repeat' (first | (with_reducible first | intro hg | refine mv (by constructor) ?_) | ((with_reducible first | refine zR ?_ ?_ | refine zW mixed ?_ ?_); exact kr) | ((with_reducible apply zK); exact rfl; exact tf) | ((with_reducible apply zCD); exact rfl) | ((with_reducible apply zCN); exact rfl) | ((with_reducible apply zC); exact rfl) | ((with_reducible refine zX ?_ ?_); exact rfl) | ((with_reducible refine zE (And.intro ?_ ?_)); exact kr) | (with_reducible refine zE ?_) | ((with_reducible apply zP); (first | exact o_lenT8 rfl | exact o_sliceTL rfl rfl (by omega) | exact dp)) | ((with_reducible apply zN); exact dn) | ((with_reducible apply zA); exact da) | ((with_reducible apply zS); exact ds) | ((with_reducible apply zY); exact rfl; exact rfl; exact tf) | ((with_reducible apply zG); exact rfl; exact rfl; exact tf) | ((with_reducible apply zU); exact rfl; exact rfl) | ((with_reducible apply zD); exact rfl; exact rfl) | ((with_reducible apply zB); exact rfl; exact rfl)))
      ((with_reducible first | apply q_retO | apply q_retON); exact rfl; exact rfl; exact rfl)
    · have hxl : ((p :: ps).map T8).length = (ps.length + 1) * 1 := by simp
      rw [List.length_cons] at hp
      (repeat' (first | (with_reducible first | intro hg | refine mv (by constructor) ?_) | ((with_reducible first | refine zR ?_ ?_ | refine zW mixed ?_ ?_); exact kr) | ((with_reducible apply zK); exact rfl; exact tf) | ((with_reducible apply zCD); exact rfl) | ((with_reducible apply zCN); exact rfl) | ((with_reducible apply zC); exact rfl) | ((with_reducible refine zX ?_ ?_); exact rfl) | ((with_reducible refine zE (And.intro ?_ ?_)); exact kr) | (with_reducible refine zE ?_) | ((with_reducible apply zP); (first | exact o_lenT8 rfl | exact o_sliceTL rfl rfl (by omega) | exact dp)) | ((with_reducible apply zN); exact dn) | ((with_reducible apply zA); (first | ((apply o_app); (case hx => exact rfl); (case hm => exact rfl); (case hy => exact .own rfl rfl); (case hty => exact rfl); (case hl => solve | exact hxl | rfl); (case hcl => solve | rfl | exact hxl | simp); (case hpos => omega); (case hb => omega); (case hb2 => omega); (case hnew => exact rfl)) | ((apply o_app); (case hx => exact rfl); (case hm => exact rfl); (case hy => exact .sl rfl); (case hty => exact rfl); (case hl => solve | exact hxl | rfl); (case hcl => solve | rfl | exact hxl | simp); (case hpos => omega); (case hb => omega); (case hb2 => omega); (case hnew => exact rfl)) | exact da)) | ((with_reducible apply zS); exact ds) | ((with_reducible apply zY); exact rfl; exact rfl; exact tf) | ((with_reducible apply zG); exact rfl; exact rfl; exact tf) | ((with_reducible apply zU); exact rfl; exact rfl) | ((with_reducible apply zD); exact rfl; exact rfl) | ((with_reducible apply zB); exact rfl; exact rfl)))
      ((with_reducible first | apply q_retO | apply q_retON); exact rfl; exact rfl; exact rfl)
  have hdr : l.drop i = l.getD i 0 :: l.drop (i + 1) := by
    rw [List.drop_eq_getElem_cons hlt, List.getD_eq_getElem?_getD, List.getElem?_eq_getElem hlt]; rfl
  have hstep : l.getD i 0 ≠ c → (l.drop f).take (i - f) ++ [l.getD i 0] = (l.drop f).take (i + 1 - f) := fun _ => by
    rw [show i + 1 - f = (i - f) + 1 by omega, List.take_add_one, List.getElem?_drop, show f + (i - f) = i by omega, List.getD_eq_getElem?_getD, List.getElem?_eq_getElem hlt]; rfl
  by_cases hx : l.getD i 0 = c
  · have hd : ((l.getD i 0).toNat : Int) = c.toNat := by rw [hx]
    rw [hdr, hx, cutA_hit] at hc
    have hc : ps ++ ([(l.drop f).take (i - f)] ++ cutA c [] (l.drop (i + 1))) = cutA c [] l := hc
    rw [← List.append_assoc] at hc
    have hz : cutA c ((l.drop (i + 1)).take (i + 1 - (i + 1))) (l.drop (i + 1)) = cutA c [] (l.drop (i + 1)) := by rw [Nat.sub_self, List.take_zero]
    have hsn : ps.map T8 ++ [T8 ((l.drop f).take (i - f))] = (ps ++ [(l.drop f).take (i - f)]).map T8 := by simp
    rcases ps with _ | ⟨p, ps⟩
    · (repeat' (first | (with_reducible first | intro hg | refine mv (by constructor) ?_) | ((with_reducible first | refine zR ?_ ?_ | refine zW mixed ?_ ?_); exact kr) | ((with_reducible apply zK); exact rfl; exact tf) | ((with_reducible apply zCD); exact rfl) | ((with_reducible apply zCN); exact rfl) | ((with_reducible apply zC); exact rfl) | ((with_reducible refine zX ?_ ?_); exact rfl) | ((with_reducible refine zE (And.intro ?_ ?_)); exact kr) | (with_reducible refine zE ?_) | ((with_reducible apply zP); (first | exact o_lenT8 rfl | exact o_indexT8 rfl rfl (by omega) | exact o_sliceT rfl rfl rfl (by omega) (by omega) | exact dp)) | ((with_reducible apply zN); exact dn) | ((with_reducible apply zA); exact da) | ((with_reducible apply zS); exact ds) | ((with_reducible apply zY); exact rfl; exact rfl; exact tf) | ((with_reducible apply zG); exact rfl; exact rfl; exact tf) | ((with_reducible apply zU); exact rfl; exact rfl) | ((with_reducible apply zD); exact rfl; exact rfl) | ((with_reducible apply zB); exact rfl; exact rfl)))
      exact ⟨i + 1, i + 1, [(l.drop f).take (i - f)], ⟨hlt, Nat.le_refl _, by simp, by rw [hz]; exact hc⟩, by omega, (And.intro rfl (And.intro rfl (And.intro rfl (And.intro rfl (And.intro rfl trivial))))), ⟨rfl, trivial⟩⟩
    · have hxl : ((p :: ps).map T8).length = (ps.length + 1) * 1 := by simp
      rw [List.length_cons] at hp
      (repeat' (first | (with_reducible first | intro hg | refine mv (by constructor) ?_) | ((with_reducible first | refine zR ?_ ?_ | refine zW mixed ?_ ?_); exact kr) | ((with_reducible apply zK); exact rfl; exact tf) | ((with_reducible apply zCD); exact rfl) | ((with_reducible apply zCN); exact rfl) | ((with_reducible apply zC); exact rfl) | ((with_reducible refine zX ?_ ?_); exact rfl) | ((with_reducible refine zE (And.intro ?_ ?_)); exact kr) | (with_reducible refine zE ?_) | ((with_reducible apply zP); (first | exact o_lenT8 rfl | exact o_indexT8 rfl rfl (by omega) | exact o_sliceT rfl rfl rfl (by omega) (by omega) | exact dp)) | ((with_reducible apply zN); exact dn) | ((with_reducible apply zA); (first | ((apply o_app); (case hx => exact rfl); (case hm => exact rfl); (case hy => exact .own rfl rfl); (case hty => exact rfl); (case hl => solve | exact hxl | rfl); (case hcl => solve | rfl | exact hxl | simp); (case hpos => omega); (case hb => omega); (case hb2 => omega); (case hnew => exact rfl)) | ((apply o_app); (case hx => exact rfl); (case hm => exact rfl); (case hy => exact .sl rfl); (case hty => exact rfl); (case hl => solve | exact hxl | rfl); (case hcl => solve | rfl | exact hxl | simp); (case hpos => omega); (case hb => omega); (case hb2 => omega); (case hnew => exact rfl)) | exact da)) | ((with_reducible apply zS); exact ds) | ((with_reducible apply zY); exact rfl; exact rfl; exact tf) | ((with_reducible apply zG); exact rfl; exact rfl; exact tf) | ((with_reducible apply zU); exact rfl; exact rfl) | ((with_reducible apply zD); exact rfl; exact rfl) | ((with_reducible apply zB); exact rfl; exact rfl)))
      exact ⟨i + 1, i + 1, (p :: ps) ++ [(l.drop f).take (i - f)], ⟨hlt, Nat.le_refl _, by simp; omega, by rw [hz]; exact hc⟩, by omega, (And.intro rfl (And.intro rfl (And.intro (by rw [List.length_append]; rfl) (And.intro (rfl) (And.intro (rfl) trivial))))), leM_ownB fun _ _ => congrArg (fun l => some (Blk.mk _ l)) hsn⟩
  · have hd : ¬ ((l.getD i 0).toNat : Int) = c.toNat := fun e => hx (u8_ext (by omega))
    rw [hdr, cutA_miss hx, hstep hx] at hc
    rcases ps with _ | ⟨p, ps⟩
    · (repeat' (first | (with_reducible first | intro hg | refine mv (by constructor) ?_) | ((with_reducible first | refine zR ?_ ?_ | refine zW mixed ?_ ?_); exact kr) | ((with_reducible apply zK); exact rfl; exact tf) | ((with_reducible apply zCD); exact rfl) | ((with_reducible apply zCN); exact rfl) | ((with_reducible apply zC); exact rfl) | ((with_reducible refine zX ?_ ?_); exact rfl) | ((with_reducible refine zE (And.intro ?_ ?_)); exact kr) | (with_reducible refine zE ?_) | ((with_reducible apply zP); (first | exact o_lenT8 rfl | exact o_indexT8 rfl rfl (by omega) | exact dp)) | ((with_reducible apply zN); exact dn) | ((with_reducible apply zA); exact da) | ((with_reducible apply zS); exact ds) | ((with_reducible apply zY); exact rfl; exact rfl; exact tf) | ((with_reducible apply zG); exact rfl; exact rfl; exact tf) | ((with_reducible apply zU); exact rfl; exact rfl) | ((with_reducible apply zD); exact rfl; exact rfl) | ((with_reducible apply zB); exact rfl; exact rfl)))
      exact ⟨i + 1, f, [], ⟨hlt, by omega, by simp, hc⟩, by omega, (And.intro rfl (And.intro rfl (And.intro rfl (And.intro rfl (And.intro rfl trivial))))), trivial⟩
    · (repeat' (first | (with_reducible first | intro hg | refine mv (by constructor) ?_) | ((with_reducible first | refine zR ?_ ?_ | refine zW mixed ?_ ?_); exact kr) | ((with_reducible apply zK); exact rfl; exact tf) | ((with_reducible apply zCD); exact rfl) | ((with_reducible apply zCN); exact rfl) | ((with_reducible apply zC); exact rfl) | ((with_reducible refine zX ?_ ?_); exact rfl) | ((with_reducible refine zE (And.intro ?_ ?_)); exact kr) | (with_reducible refine zE ?_) | ((with_reducible apply zP); (first | exact o_lenT8 rfl | exact o_indexT8 rfl rfl (by omega) | exact dp)) | ((with_reducible apply zN); exact dn) | ((with_reducible apply zA); exact da) | ((with_reducible apply zS); exact ds) | ((with_reducible apply zY); exact rfl; exact rfl; exact tf) | ((with_reducible apply zG); exact rfl; exact rfl; exact tf) | ((with_reducible apply zU); exact rfl; exact rfl) | ((with_reducible apply zD); exact rfl; exact rfl) | ((with_reducible apply zB); exact rfl; exact rfl)))
      exact ⟨i + 1, f, p :: ps, ⟨hlt, by omega, by omega, hc⟩, by omega, (And.intro rfl (And.intro rfl (And.intro rfl (And.intro rfl (And.intro rfl trivial))))), (And.intro rfl trivial)⟩
theorem cut_A (l : List UInt8) (c : UInt8) (hl : l.length ≤ 1000000) : AC Tryz.prog 49 [T8 l, U8 c] (tsl (cutA c [] l)) := AC.of_own (cut_O l c hl)

end Go.Proofs.YtfcfmpdpjmbcnaaGreatDoor
