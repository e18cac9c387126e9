/- ContradictingIn (under way). -/
import Derived.Test.YtagpmpbmfjaiiaaGreatDoorPf
import Derived.Test.YtagpmpbmfjaiiaaGreatDoorPk
import Derived.Test.YtagpmpbmfjaiiaaGreatDoorPl
import Derived.Test.YtagpmpbmfjaiiaaGreatDoorPm
import Derived.Test.YtagpmpbmfjaiiaaGreatDoorPo
set_option linter.unusedVariables false
set_option linter.unusedSimpArgs false
namespace Go.Proofs.YtagpmpbmfjaiiaaGreatDoor
open Go.RowKit
set_option maxRecDepth 20000
set_option maxHeartbeats 8000000

instance : ZroI Tryz.prog 126 (List.replicate 512 (.bool false)) := ⟨by kernel_rfl⟩
theorem bls0 (n : Nat) : (List.replicate n (Value.bool false)).map DV.val = bls (fun _ => false) n := by
  unfold bls
  apply List.ext_getElem?
  intro i
  rw [List.getElem?_map, List.getElem?_map, List.getElem?_replicate]
  by_cases h : i < n
  · rw [if_pos h, List.getElem?_range h]; rfl
  · rw [if_neg h, List.getElem?_eq_none (by simp; omega)]; rfl
/-- The sets that the first k settings keep. -/
def tog (T : List Int) (A : List Act3) (m : Int) (L : List (List Int)) (k : Nat) : Nat → Bool := (L.take k).foldl (fun f l => updB f (keptTo T A l m T.length) true) fun _ => false
theorem tog_succ {T : List Int} {A : List Act3} {m : Int} {L : List (List Int)} {k : Nat} {N : List Int} (hk : k < L.length) (h : L.getD k [] = N) : tog T A m L (k + 1) = updB (tog T A m L k) (keptTo T A N m T.length) true := by
  unfold tog
  rw [List.getD_eq_getElem?_getD, List.getElem?_eq_getElem hk] at h
  rw [List.take_add_one, List.getElem?_eq_getElem hk, List.foldl_append, show L[k] = N from h]
  rfl
/-- The sets below a set: its first i positions are left out, one at a time. -/
def innerF (f : Nat → Bool) (s : Nat) : Nat → Nat → Bool
  | 0 => f
  | i + 1 => updB (innerF f s i) (bitOff s (2 ^ i)) (innerF f s i (bitOff s (2 ^ i)) || innerF f s i s)
def outerF (f : Nat → Bool) (n e : Nat) : Nat → Nat → Bool
  | 0 => f
  | k + 1 => innerF (outerF f n e k) (e - k) n
/-- The best set, behind the set s. -/
def better (l b : List Int) : Bool := decide ((l.length : Int) < b.length) || (decide ((l.length : Int) = b.length) && decide (cmpL l b < 0))
def pickS (f : Nat → Bool) (y : Option (List Int)) (s : Nat) : Option (List Int) := bif f s then y else match y with
  | none => some (posTo s 9)
  | some b => bif better (posTo s 9) b then some (posTo s 9) else some b
def pickTo (f : Nat → Bool) : Nat → Option (List Int)
  | 0 => none
  | k + 1 => pickS f (pickTo f k) (k + 1)
def optC : Option (List Int) → DV
  | none => nilV
  | some l => isl l
/-- The sets that some settings keep. -/
def contF (T : List Int) (A : List Act3) (m : Int) (L : List (List Int)) : Nat → Bool := outerF (tog T A m L L.length) T.length (2 ^ T.length - 1) (2 ^ T.length - 1)
/-- The positions that contradict each other. -/
def contP (T : List Int) (A : List Act3) (m : Int) (L : List (List Int)) : Option (List Int) := pickTo (contF T A m L) (2 ^ T.length - 1)
theorem posTo_ne : ∀ s : Nat, s < 512 → 0 < s → posTo s 9 ≠ [] := by decide +kernel
theorem contra_A (T : List Int) (A : List Act3) (L : List (List Int)) (m : Int) (h : RulOk T A) (hL : SetsOk A L) (he : rulE T A = (0, 0)) (hm : inR m 0 100000 = true) :
    AC Tryz.prog 48 [rulV T A, I m] (.tuple [optC (contP T A m L), I (unl (contP T A m L).isSome 12)]) := by
  have ht9 := h.t9
  have hlo : LenOk T A := ⟨by omega, by have := h.a3; omega, fun a ha => by have := (h.b a ha).2.2.2.1; omega⟩
  have hop := openTolerance_A T A m hlo
  rw [he, hm] at hop
  have hev := everywhere_A T A h
  refine ac_body Tryz.func48 rfl (by kernel_rfl) fun w0 ok => ?_; show AWp _ (ctx0 w0 ok _) _ (ARet _ _ _) (entry _)
  (repeat' (first | (with_reducible first | intro hg | refine mv (by constructor) ?_) | ((with_reducible first | refine zR ?_ ?_ | refine zW mixed ?_ ?_); exact kr) | ((with_reducible apply zK); exact rfl; exact tf) | ((with_reducible apply zCD); exact rfl) | ((with_reducible apply zCN); exact rfl) | ((with_reducible apply zC); exact rfl) | ((with_reducible refine zX ?_ ?_); exact rfl) | ((with_reducible refine zE (And.intro ?_ ?_)); exact kr) | (with_reducible refine zE ?_) | ((with_reducible apply zP); (first | exact o_makeFuncB rfl rfl | exact dp | exact oc rfl (hop))) | ((with_reducible apply zN); exact dn) | ((with_reducible apply zA); exact da) | ((with_reducible apply zS); exact ds) | ((with_reducible apply zY); exact rfl; exact rfl; exact tf) | ((with_reducible apply zG); exact rfl; exact rfl; exact tf) | ((with_reducible apply zU); exact rfl; exact rfl) | ((with_reducible apply zD); exact rfl; exact rfl) | ((with_reducible apply zB); exact rfl; exact rfl)))
  refine awp_rangeFunc (psl := [26]) (bs := [rulV T A]) (caps := []) (fin := true) (xs := yas A L) (fun k (_ : Unit) => ⟨frL [(2, .ptr 2 0), (3, .ptr 3 0), (6, .ptr 6 0), (8, .ptr 8 0)], memL [(2, ⟨25, rulC T A⟩), (3, ⟨3, [I m]⟩), (6, ⟨116, rulC T A⟩), (8, ⟨126, bls (tog T A m L k) 512⟩)]⟩)
    (fun _ _ => True) () (EntI.eq (P := Tryz.prog) (f := 75)) (.fn rfl) (settings_A T A L hL.chain h.a0 h.acts) trivial (le_of (And.intro rfl (And.intro rfl (And.intro rfl (And.intro rfl trivial)))) (And.intro rfl (And.intro rfl (And.intro rfl (And.intro (congrArg (fun l => some (Blk.mk _ l)) (bls0 512)) trivial))))) (by decide) (fun d hd => by obtain ⟨l, _, rfl⟩ := List.mem_map.1 hd; rfl) (fun k y d _ hd W ok' rd ex gv => ?_) (by simp) (fun _ y _ => ?_)
  · obtain ⟨hk, rfl⟩ := yas_at hd
    have hmem : L.getD k [] ∈ L := by rw [List.getD_eq_getElem?_getD, List.getElem?_eq_getElem hk]; exact List.getElem_mem hk
    have hso := hL.ok _ hmem
    have hsucc := tog_succ (T := T) (A := A) (m := m) hk rfl
    generalize L.getD k [] = N at *
    have hNl := hso.1
    have hke := kept_A T A N m h hso
    have hkl := keptTo_lt (T := T) (A := A) (xs := N) (m := m) T.length
    have hkp : 2 ^ T.length ≤ 2 ^ 9 := Nat.pow_le_pow_right (by decide) ht9
    have hkk : keptTo T A N m T.length < 512 := by omega
    rw [show (isl N : DV) = .slice A.length (ivs N) by rw [← hNl]] at hke
    have hv : ((ivs N).drop 0).take (A.length * 1) = ivs N := by rw [List.drop_zero, List.take_of_length_le (by simp [ivs]; omega)]
    replace hke : AC Tryz.prog 85 [rulV T A, .slice A.length (((ivs N).drop 0).take (A.length * 1)), I m] (I (keptTo T A N m T.length : Nat)) := by rw [hv]; exact hke
    refine awp_cut [(26, .lsl YN 0 A.length 1), (1999999, .lsl YN 0 A.length 1), (2, .ptr 2 0), (3, .ptr 3 0), (6, .ptr 6 0), (8, .ptr 8 0), (1000002, .ptr 2 0), (1000003, .ptr 3 0), (1000006, .ptr 6 0), (1000008, .ptr 8 0)]
      [(2, ⟨25, rulC T A⟩), (3, ⟨3, [I m]⟩), (6, ⟨116, rulC T A⟩), (8, ⟨126, bls (tog T A m L k) 512⟩), (YN, ⟨3, ivs N⟩)] (And.intro rfl (And.intro rfl (And.intro rfl (And.intro rfl (And.intro rfl (And.intro rfl (And.intro rfl (And.intro rfl (And.intro rfl (And.intro rfl trivial)))))))))) (And.intro rfl (And.intro rfl (And.intro rfl (And.intro rfl (And.intro rfl trivial))))) ?_
    (repeat' (first | (with_reducible first | intro hg | refine mv (by constructor) ?_) | ((with_reducible first | refine zR ?_ ?_ | refine zW mixed ?_ ?_); exact kr) | ((with_reducible apply zK); exact rfl; exact tf) | ((with_reducible apply zCD); exact rfl) | ((with_reducible apply zCN); exact rfl) | ((with_reducible apply zC); exact rfl) | ((with_reducible refine zX ?_ ?_); exact rfl) | ((with_reducible refine zE (And.intro ?_ ?_)); exact kr) | (with_reducible refine zE ?_) | ((with_reducible apply zP); exact dp) | ((with_reducible apply zN); exact dn) | ((with_reducible apply zA); exact da) | ((with_reducible apply zS); exact ds) | ((with_reducible apply zY); exact rfl; exact rfl; exact tf) | ((with_reducible apply zG); exact rfl; exact rfl; exact tf) | ((with_reducible apply zU); exact rfl; exact rfl) | ((with_reducible apply zD); exact rfl; exact rfl) | ((with_reducible apply zB); exact rfl; exact rfl)))
    refine ⟨rfl, fun W' => ?_⟩
    (repeat' (first | (with_reducible first | intro hg | refine mv (by constructor) ?_) | ((with_reducible first | refine zR ?_ ?_ | refine zW mixed ?_ ?_); exact kr) | ((with_reducible apply zK); exact rfl; exact tf) | ((with_reducible apply zCD); exact rfl) | ((with_reducible apply zCN); exact rfl) | ((with_reducible apply zC); exact rfl) | ((with_reducible refine zX ?_ ?_); exact rfl) | ((with_reducible refine zE (And.intro ?_ ?_)); exact kr) | (with_reducible refine zE ?_) | ((with_reducible apply zP); (first | exact o_indexP (o := keptTo T A N m T.length) rfl rfl (by omega) (by omega) (by omega) | exact dp | exact oc rfl (hke))) | ((with_reducible apply zN); exact dn) | ((with_reducible apply zA); exact da) | ((with_reducible apply zS); (first | exact o_storeB rfl rfl rfl hkk | exact ds)) | ((with_reducible apply zY); exact rfl; exact rfl; exact tf) | ((with_reducible apply zG); exact rfl; exact rfl; exact tf) | ((with_reducible apply zU); exact rfl; exact rfl) | ((with_reducible apply zD); exact rfl; exact rfl) | ((with_reducible apply zB); exact rfl; exact rfl)))
    exact ⟨⟨rfl, rfl⟩, (), trivial, le_of (And.intro rfl (And.intro rfl (And.intro rfl (And.intro rfl trivial)))) (And.intro rfl (And.intro rfl (And.intro rfl (And.intro (congrArg (fun f => some (Blk.mk _ (bls f 512))) hsucc.symm) trivial))))⟩
  · have hkp : 2 ^ T.length ≤ 2 ^ 9 := Nat.pow_le_pow_right (by decide) ht9
    have hk1 : 1 ≤ 2 ^ T.length := Nat.one_le_two_pow
    obtain ⟨e, heq⟩ : ∃ e, 2 ^ T.length = e + 1 := ⟨2 ^ T.length - 1, by omega⟩
    rw [heq] at hkp hev
    rw [show ((e + 1 : Nat) : Int) - 1 = (e : Int) by omega] at hev
    (repeat' (first | (with_reducible first | intro hg | refine mv (by constructor) ?_) | ((with_reducible first | refine zR ?_ ?_ | refine zW mixed ?_ ?_); exact kr) | ((with_reducible apply zK); exact rfl; exact tf) | ((with_reducible apply zCD); exact rfl) | ((with_reducible apply zCN); exact rfl) | ((with_reducible apply zC); exact rfl) | ((with_reducible refine zX ?_ ?_); exact rfl) | ((with_reducible refine zE (And.intro ?_ ?_)); exact kr) | (with_reducible refine zE ?_) | ((with_reducible apply zP); (first | exact dp | exact oc rfl (hev))) | ((with_reducible apply zN); exact dn) | ((with_reducible apply zA); exact da) | ((with_reducible apply zS); exact ds) | ((with_reducible apply zY); exact rfl; exact rfl; exact tf) | ((with_reducible apply zG); exact rfl; exact rfl; exact tf) | ((with_reducible apply zU); exact rfl; exact rfl) | ((with_reducible apply zD); exact rfl; exact rfl) | ((with_reducible apply zB); exact rfl; exact rfl)))
    refine awp_loopL (α := Nat × (Nat → Bool)) (fun x => [(2, .ptr 2 0), (3, .ptr 3 0), (6, .ptr 6 0), (8, .ptr 8 0), (10, .d (I x.1))]) (fun x => [(2, ⟨25, rulC T A⟩), (3, ⟨3, [I m]⟩), (6, ⟨116, rulC T A⟩), (8, ⟨126, bls x.2 512⟩)])
      (fun x => x.1 ≤ e ∧ x.2 = outerF (tog T A m L (yas A L).length) T.length e (e - x.1)) (fun x => x.1) (e, tog T A m L (yas A L).length) ⟨Nat.le_refl _, by rw [Nat.sub_self]; rfl⟩ (And.intro rfl (And.intro rfl (And.intro rfl (And.intro rfl (And.intro rfl trivial))))) (And.intro rfl (And.intro rfl (And.intro rfl (And.intro rfl trivial)))) fun ⟨s, f⟩ ⟨hs, hf⟩ => ?_
    have hs : s ≤ e := hs
    have hf : f = outerF (tog T A m L (yas A L).length) T.length e (e - s) := hf
    rcases s with _ | s
    · (repeat' (first | (with_reducible first | intro hg | refine mv (by constructor) ?_) | ((with_reducible first | refine zR ?_ ?_ | refine zW mixed ?_ ?_); exact kr) | ((with_reducible apply zK); exact rfl; exact tf) | ((with_reducible apply zCD); exact rfl) | ((with_reducible apply zCN); exact rfl) | ((with_reducible apply zC); exact rfl) | ((with_reducible refine zX ?_ ?_); exact rfl) | ((with_reducible refine zE (And.intro ?_ ?_)); exact kr) | (with_reducible refine zE ?_) | ((with_reducible apply zP); exact dp) | ((with_reducible apply zN); exact dn) | ((with_reducible apply zA); exact da) | ((with_reducible apply zS); exact ds) | ((with_reducible apply zY); exact rfl; exact rfl; exact tf) | ((with_reducible apply zG); exact rfl; exact rfl; exact tf) | ((with_reducible apply zU); exact rfl; exact rfl) | ((with_reducible apply zD); exact rfl; exact rfl) | ((with_reducible apply zB); exact rfl; exact rfl)))
      have hp0 : ((0 : Nat) : Int) + 1 = 1 := rfl
      refine awp_loopL (α := Nat × Option (List Int)) (fun x => [(6, .ptr 6 0), (8, .ptr 8 0), (12, .d (optC x.2)), (13, .d (I ((x.1 : Int) + 1)))]) (fun _ => [(6, ⟨116, rulC T A⟩), (8, ⟨126, bls f 512⟩)])
        (fun x => x.1 ≤ e ∧ x.2 = pickTo f x.1 ∧ ∀ b, x.2 = some b → b ≠ [] ∧ b.length ≤ 9) (fun x => e - x.1) (0, none) ⟨Nat.zero_le _, rfl, fun b h => by cases h⟩ (And.intro rfl (And.intro rfl (And.intro rfl (And.intro rfl trivial)))) (And.intro rfl (And.intro rfl trivial)) fun ⟨k, y⟩ ⟨hk, hy, hb⟩ => ?_
      have hk : k ≤ e := hk
      have hy : y = pickTo f k := hy
      by_cases hlt : k < e
      · have hpo := positions_A (k + 1) (by omega) (posTo_ne _ (by omega) (by omega))
        have hpl := posTo_len (k + 1) 9
        rw [show ((k + 1 : Nat) : Int) = (k : Int) + 1 by omega] at hpo
        cases hq : f (k + 1)
        · have hne := posTo_ne (k + 1) (by omega) (by omega)
          have hpk : pickTo f (k + 1) = match pickTo f k with
            | none => some (posTo (k + 1) 9)
            | some b => bif better (posTo (k + 1) 9) b then some (posTo (k + 1) 9) else some b := by
            show pickS f (pickTo f k) (k + 1) = _
            unfold pickS
            rw [hq]; rfl
          rw [← hy] at hpk
          rcases y with _ | b
          · (repeat' (first | (with_reducible first | intro hg | refine mv (by constructor) ?_) | ((with_reducible first | refine zR ?_ ?_ | refine zW mixed ?_ ?_); exact kr) | ((with_reducible apply zK); exact rfl; exact tf) | ((with_reducible apply zCD); exact rfl) | ((with_reducible apply zCN); exact rfl) | ((with_reducible apply zC); exact rfl) | ((with_reducible refine zX ?_ ?_); exact rfl) | ((with_reducible refine zE (And.intro ?_ ?_)); exact kr) | (with_reducible refine zE ?_) | ((with_reducible apply zP); (first | exact o_indexP (o := k + 1) rfl rfl (by omega) (by omega) (by omega) | exact o_loadB rfl rfl (by omega) | exact dp | exact oc rfl (hev) | exact oc rfl (hpo))) | ((with_reducible apply zN); exact dn) | ((with_reducible apply zA); exact da) | ((with_reducible apply zS); exact ds) | ((with_reducible apply zY); exact rfl; exact rfl; exact tf) | ((with_reducible apply zG); exact rfl; exact rfl; exact tf) | ((with_reducible apply zU); exact rfl; exact rfl) | ((with_reducible apply zD); exact rfl; exact rfl) | ((with_reducible apply zB); exact rfl; exact rfl)))
            exact ⟨(k + 1, some (posTo (k + 1) 9)), ⟨hlt, hpk.symm, fun b h => by cases h; exact ⟨hne, hpl⟩⟩, by show e - (k + 1) < e - k; omega, (And.intro rfl (And.intro rfl (And.intro rfl (And.intro (congrArg (fun n => AV.d (I n)) (show ((k : Int) + 1 + 1) = ((k + 1 : Nat) : Int) + 1 by omega)) trivial)))), (And.intro rfl (And.intro rfl trivial))⟩
          · have hbe := ivs_ne (hb b rfl).1
            have hbl := (hb b rfl).2
            replace hpk : pickTo f (k + 1) = bif better (posTo (k + 1) 9) b then some (posTo (k + 1) 9) else some b := hpk
            by_cases h1 : ((posTo (k + 1) 9).length : Int) < b.length
            · have hbt : better (posTo (k + 1) 9) b = true := by unfold better; rw [decide_eq_true h1]; rfl
              rw [hbt] at hpk
              (repeat' (first | (with_reducible first | intro hg | refine mv (by constructor) ?_) | ((with_reducible first | refine zR ?_ ?_ | refine zW mixed ?_ ?_); exact kr) | ((with_reducible apply zK); exact rfl; exact tf) | ((with_reducible apply zCD); exact rfl) | ((with_reducible apply zCN); exact rfl) | ((with_reducible apply zC); exact rfl) | ((with_reducible refine zX ?_ ?_); exact rfl) | ((with_reducible refine zE (And.intro ?_ ?_)); exact kr) | (with_reducible refine zE ?_) | ((with_reducible apply zP); (first | exact o_indexP (o := k + 1) rfl rfl (by omega) (by omega) (by omega) | exact o_loadB rfl rfl (by omega) | exact dp | exact oc rfl (hev) | exact oc rfl (hpo))) | ((with_reducible apply zN); exact dn) | ((with_reducible apply zA); exact da) | ((with_reducible apply zS); exact ds) | ((with_reducible apply zY); exact rfl; exact rfl; exact tf) | ((with_reducible apply zG); exact rfl; exact rfl; exact tf) | ((with_reducible apply zU); exact rfl; exact rfl) | ((with_reducible apply zD); exact rfl; exact rfl) | ((with_reducible apply zB); exact rfl; exact rfl)))
              exact ⟨(k + 1, some (posTo (k + 1) 9)), ⟨hlt, hpk.symm, fun b h => by cases h; exact ⟨hne, hpl⟩⟩, by show e - (k + 1) < e - k; omega, (And.intro rfl (And.intro rfl (And.intro rfl (And.intro (congrArg (fun n => AV.d (I n)) (show ((k : Int) + 1 + 1) = ((k + 1 : Nat) : Int) + 1 by omega)) trivial)))), (And.intro rfl (And.intro rfl trivial))⟩
            · by_cases h2 : ((posTo (k + 1) 9).length : Int) = b.length
              · have hcm := compare_A (posTo (k + 1) 9) b (by omega) (by omega)
                by_cases h3 : cmpL (posTo (k + 1) 9) b < 0
                · have hbt : better (posTo (k + 1) 9) b = true := by unfold better; rw [decide_eq_false h1, decide_eq_true h2, decide_eq_true h3]; rfl
                  rw [hbt] at hpk
                  (repeat' (first | (with_reducible first | intro hg | refine mv (by constructor) ?_) | ((with_reducible first | refine zR ?_ ?_ | refine zW mixed ?_ ?_); exact kr) | ((with_reducible apply zK); exact rfl; exact tf) | ((with_reducible apply zCD); exact rfl) | ((with_reducible apply zCN); exact rfl) | ((with_reducible apply zC); exact rfl) | ((with_reducible refine zX ?_ ?_); exact rfl) | ((with_reducible refine zE (And.intro ?_ ?_)); exact kr) | (with_reducible refine zE ?_) | ((with_reducible apply zP); (first | exact o_indexP (o := k + 1) rfl rfl (by omega) (by omega) (by omega) | exact o_loadB rfl rfl (by omega) | exact dp | exact oc rfl (hev) | exact oc rfl (hpo) | exact oc rfl (hcm))) | ((with_reducible apply zN); exact dn) | ((with_reducible apply zA); exact da) | ((with_reducible apply zS); exact ds) | ((with_reducible apply zY); exact rfl; exact rfl; exact tf) | ((with_reducible apply zG); exact rfl; exact rfl; exact tf) | ((with_reducible apply zU); exact rfl; exact rfl) | ((with_reducible apply zD); exact rfl; exact rfl) | ((with_reducible apply zB); exact rfl; exact rfl)))
                  exact ⟨(k + 1, some (posTo (k + 1) 9)), ⟨hlt, hpk.symm, fun b h => by cases h; exact ⟨hne, hpl⟩⟩, by show e - (k + 1) < e - k; omega, (And.intro rfl (And.intro rfl (And.intro rfl (And.intro (congrArg (fun n => AV.d (I n)) (show ((k : Int) + 1 + 1) = ((k + 1 : Nat) : Int) + 1 by omega)) trivial)))), (And.intro rfl (And.intro rfl trivial))⟩
                · have hbt : better (posTo (k + 1) 9) b = false := by unfold better; rw [decide_eq_false h1, decide_eq_true h2, decide_eq_false h3]; rfl
                  rw [hbt] at hpk
                  (repeat' (first | (with_reducible first | intro hg | refine mv (by constructor) ?_) | ((with_reducible first | refine zR ?_ ?_ | refine zW mixed ?_ ?_); exact kr) | ((with_reducible apply zK); exact rfl; exact tf) | ((with_reducible apply zCD); exact rfl) | ((with_reducible apply zCN); exact rfl) | ((with_reducible apply zC); exact rfl) | ((with_reducible refine zX ?_ ?_); exact rfl) | ((with_reducible refine zE (And.intro ?_ ?_)); exact kr) | (with_reducible refine zE ?_) | ((with_reducible apply zP); (first | exact o_indexP (o := k + 1) rfl rfl (by omega) (by omega) (by omega) | exact o_loadB rfl rfl (by omega) | exact dp | exact oc rfl (hev) | exact oc rfl (hpo) | exact oc rfl (hcm))) | ((with_reducible apply zN); exact dn) | ((with_reducible apply zA); exact da) | ((with_reducible apply zS); exact ds) | ((with_reducible apply zY); exact rfl; exact rfl; exact tf) | ((with_reducible apply zG); exact rfl; exact rfl; exact tf) | ((with_reducible apply zU); exact rfl; exact rfl) | ((with_reducible apply zD); exact rfl; exact rfl) | ((with_reducible apply zB); exact rfl; exact rfl)))
                  exact ⟨(k + 1, some b), ⟨hlt, hpk.symm, hb⟩, by show e - (k + 1) < e - k; omega, (And.intro rfl (And.intro rfl (And.intro rfl (And.intro (congrArg (fun n => AV.d (I n)) (show ((k : Int) + 1 + 1) = ((k + 1 : Nat) : Int) + 1 by omega)) trivial)))), (And.intro rfl (And.intro rfl trivial))⟩
              · have hbt : better (posTo (k + 1) 9) b = false := by unfold better; rw [decide_eq_false h1, decide_eq_false h2]; rfl
                rw [hbt] at hpk
                (repeat' (first | (with_reducible first | intro hg | refine mv (by constructor) ?_) | ((with_reducible first | refine zR ?_ ?_ | refine zW mixed ?_ ?_); exact kr) | ((with_reducible apply zK); exact rfl; exact tf) | ((with_reducible apply zCD); exact rfl) | ((with_reducible apply zCN); exact rfl) | ((with_reducible apply zC); exact rfl) | ((with_reducible refine zX ?_ ?_); exact rfl) | ((with_reducible refine zE (And.intro ?_ ?_)); exact kr) | (with_reducible refine zE ?_) | ((with_reducible apply zP); (first | exact o_indexP (o := k + 1) rfl rfl (by omega) (by omega) (by omega) | exact o_loadB rfl rfl (by omega) | exact dp | exact oc rfl (hev) | exact oc rfl (hpo))) | ((with_reducible apply zN); exact dn) | ((with_reducible apply zA); exact da) | ((with_reducible apply zS); exact ds) | ((with_reducible apply zY); exact rfl; exact rfl; exact tf) | ((with_reducible apply zG); exact rfl; exact rfl; exact tf) | ((with_reducible apply zU); exact rfl; exact rfl) | ((with_reducible apply zD); exact rfl; exact rfl) | ((with_reducible apply zB); exact rfl; exact rfl)))
                exact ⟨(k + 1, some b), ⟨hlt, hpk.symm, hb⟩, by show e - (k + 1) < e - k; omega, (And.intro rfl (And.intro rfl (And.intro rfl (And.intro (congrArg (fun n => AV.d (I n)) (show ((k : Int) + 1 + 1) = ((k + 1 : Nat) : Int) + 1 by omega)) trivial)))), (And.intro rfl (And.intro rfl trivial))⟩
        · (repeat' (first | (with_reducible first | intro hg | refine mv (by constructor) ?_) | ((with_reducible first | refine zR ?_ ?_ | refine zW mixed ?_ ?_); exact kr) | ((with_reducible apply zK); exact rfl; exact tf) | ((with_reducible apply zCD); exact rfl) | ((with_reducible apply zCN); exact rfl) | ((with_reducible apply zC); exact rfl) | ((with_reducible refine zX ?_ ?_); exact rfl) | ((with_reducible refine zE (And.intro ?_ ?_)); exact kr) | (with_reducible refine zE ?_) | ((with_reducible apply zP); (first | exact o_indexP (o := k + 1) rfl rfl (by omega) (by omega) (by omega) | exact o_loadB rfl rfl (by omega) | exact dp | exact oc rfl (hev))) | ((with_reducible apply zN); exact dn) | ((with_reducible apply zA); exact da) | ((with_reducible apply zS); exact ds) | ((with_reducible apply zY); exact rfl; exact rfl; exact tf) | ((with_reducible apply zG); exact rfl; exact rfl; exact tf) | ((with_reducible apply zU); exact rfl; exact rfl) | ((with_reducible apply zD); exact rfl; exact rfl) | ((with_reducible apply zB); exact rfl; exact rfl)))
          refine ⟨(k + 1, y), ⟨hlt, ?_, hb⟩, by show e - (k + 1) < e - k; omega, (And.intro rfl (And.intro rfl (And.intro rfl (And.intro (congrArg (fun n => AV.d (I n)) (show ((k : Int) + 1 + 1) = ((k + 1 : Nat) : Int) + 1 by omega)) trivial)))), (And.intro rfl (And.intro rfl trivial))⟩
          rw [hy]
          show pickTo f k = pickS f (pickTo f k) (k + 1)
          unfold pickS
          rw [hq]; rfl
      · have hke : k = e := by omega
        have hfc : f = contF T A m L := by
          rw [hf, show (yas A L).length = L.length by simp [yas]]
          unfold contF
          rw [heq]; rfl
        have hcp : y = contP T A m L := by
          rw [hy, hke, hfc]
          unfold contP
          rw [heq]; rfl
        rcases y with _ | b
        · (repeat' (first | (with_reducible first | intro hg | refine mv (by constructor) ?_) | ((with_reducible first | refine zR ?_ ?_ | refine zW mixed ?_ ?_); exact kr) | ((with_reducible apply zK); exact rfl; exact tf) | ((with_reducible apply zCD); exact rfl) | ((with_reducible apply zCN); exact rfl) | ((with_reducible apply zC); exact rfl) | ((with_reducible refine zX ?_ ?_); exact rfl) | ((with_reducible refine zE (And.intro ?_ ?_)); exact kr) | (with_reducible refine zE ?_) | ((with_reducible apply zP); (first | exact o_nenS rfl rfl | exact dp | exact oc rfl (hev) | exact oc rfl (unless_A _ _))) | ((with_reducible apply zN); exact dn) | ((with_reducible apply zA); exact da) | ((with_reducible apply zS); exact ds) | ((with_reducible apply zY); exact rfl; exact rfl; exact tf) | ((with_reducible apply zG); exact rfl; exact rfl; exact tf) | ((with_reducible apply zU); exact rfl; exact rfl) | ((with_reducible apply zD); exact rfl; exact rfl) | ((with_reducible apply zB); exact rfl; exact rfl)))
          ((with_reducible first | apply q_retR | apply q_retN); exact rl)
          rw [← hcp]; rfl
        · have hbe := ivs_ne (hb b rfl).1
          (repeat' (first | (with_reducible first | intro hg | refine mv (by constructor) ?_) | ((with_reducible first | refine zR ?_ ?_ | refine zW mixed ?_ ?_); exact kr) | ((with_reducible apply zK); exact rfl; exact tf) | ((with_reducible apply zCD); exact rfl) | ((with_reducible apply zCN); exact rfl) | ((with_reducible apply zC); exact rfl) | ((with_reducible refine zX ?_ ?_); exact rfl) | ((with_reducible refine zE (And.intro ?_ ?_)); exact kr) | (with_reducible refine zE ?_) | ((with_reducible apply zP); (first | exact o_nenD rfl hbe rfl | exact dp | exact oc rfl (hev) | exact oc rfl (unless_A _ _))) | ((with_reducible apply zN); exact dn) | ((with_reducible apply zA); exact da) | ((with_reducible apply zS); exact ds) | ((with_reducible apply zY); exact rfl; exact rfl; exact tf) | ((with_reducible apply zG); exact rfl; exact rfl; exact tf) | ((with_reducible apply zU); exact rfl; exact rfl) | ((with_reducible apply zD); exact rfl; exact rfl) | ((with_reducible apply zB); exact rfl; exact rfl)))
          ((with_reducible first | apply q_retR | apply q_retN); exact rl)
          rw [← hcp]; rfl
    · (repeat' (first | (with_reducible first | intro hg | refine mv (by constructor) ?_) | ((with_reducible first | refine zR ?_ ?_ | refine zW mixed ?_ ?_); exact kr) | ((with_reducible apply zK); exact rfl; exact tf) | ((with_reducible apply zCD); exact rfl) | ((with_reducible apply zCN); exact rfl) | ((with_reducible apply zC); exact rfl) | ((with_reducible refine zX ?_ ?_); exact rfl) | ((with_reducible refine zE (And.intro ?_ ?_)); exact kr) | (with_reducible refine zE ?_) | ((with_reducible apply zP); exact dp) | ((with_reducible apply zN); exact dn) | ((with_reducible apply zA); exact da) | ((with_reducible apply zS); exact ds) | ((with_reducible apply zY); exact rfl; exact rfl; exact tf) | ((with_reducible apply zG); exact rfl; exact rfl; exact tf) | ((with_reducible apply zU); exact rfl; exact rfl) | ((with_reducible apply zD); exact rfl; exact rfl) | ((with_reducible apply zB); exact rfl; exact rfl)))
      refine awp_loopL (α := Nat) (fun i => [(2, .ptr 2 0), (3, .ptr 3 0), (6, .ptr 6 0), (8, .ptr 8 0), (10, .d (I ((s + 1 : Nat) : Int))), (40, .d (I T.length)), (41, .d (I i))]) (fun i => [(2, ⟨25, rulC T A⟩), (3, ⟨3, [I m]⟩), (6, ⟨116, rulC T A⟩), (8, ⟨126, bls (innerF f (s + 1) i) 512⟩)])
        (fun i => i ≤ T.length) (fun i => T.length - i) 0 (Nat.zero_le _) (And.intro rfl (And.intro rfl (And.intro rfl (And.intro rfl (And.intro rfl (And.intro rfl (And.intro rfl trivial))))))) (And.intro rfl (And.intro rfl (And.intro rfl (And.intro rfl trivial)))) fun i hi => ?_
      by_cases hlt : i < T.length
      · have hbo := bitOff_le (a := s + 1) (b := 2 ^ i) (by omega)
        have hnx : innerF f (s + 1) (i + 1) = updB (innerF f (s + 1) i) (bitOff (s + 1) (2 ^ i)) (innerF f (s + 1) i (bitOff (s + 1) (2 ^ i)) || innerF f (s + 1) i (s + 1)) := rfl
        generalize innerF f (s + 1) i = g at *
        cases hq : g (bitOff (s + 1) (2 ^ i))
        all_goals
          rw [hq] at hnx
          (repeat' (first | (with_reducible first | intro hg | refine mv (by constructor) ?_) | ((with_reducible first | refine zR ?_ ?_ | refine zW mixed ?_ ?_); exact kr) | ((with_reducible apply zK); exact rfl; exact tf) | ((with_reducible apply zCD); exact rfl) | ((with_reducible apply zCN); exact rfl) | ((with_reducible apply zC); exact rfl) | ((with_reducible refine zX ?_ ?_); exact rfl) | ((with_reducible refine zE (And.intro ?_ ?_)); exact kr) | (with_reducible refine zE ?_) | ((with_reducible apply zP); (first | exact o_shl (n := i) rfl rfl (by omega) (shl1 (by omega)) | exact o_andNotN (a := s + 1) rfl rfl (by omega) | exact o_indexP (o := bitOff (s + 1) (2 ^ i)) rfl rfl (by omega) (by omega) (by omega) | exact o_indexP (o := s + 1) rfl rfl (by omega) (by omega) (by omega) | exact o_loadB rfl rfl (by omega) | exact dp)) | ((with_reducible apply zN); exact dn) | ((with_reducible apply zA); exact da) | ((with_reducible apply zS); (first | exact o_storeB rfl rfl rfl (by omega) | exact ds)) | ((with_reducible apply zY); exact rfl; exact rfl; exact tf) | ((with_reducible apply zG); exact rfl; exact rfl; exact tf) | ((with_reducible apply zU); exact rfl; exact rfl) | ((with_reducible apply zD); exact rfl; exact rfl) | ((with_reducible apply zB); exact rfl; exact rfl)))
          exact ⟨i + 1, hlt, by omega, (And.intro rfl (And.intro rfl (And.intro rfl (And.intro rfl (And.intro rfl (And.intro rfl (And.intro rfl trivial))))))), (And.intro rfl (And.intro rfl (And.intro rfl (And.intro (congrArg (fun f => some (Blk.mk _ (bls f 512))) hnx.symm) trivial))))⟩
      · have hil : i = T.length := by omega
        subst hil
        have hfs : innerF f (s + 1) T.length = outerF (tog T A m L (yas A L).length) T.length e (e - s) := by
          rw [show e - s = (e - (s + 1)) + 1 by omega]
          show _ = innerF (outerF _ _ e (e - (s + 1))) (e - (e - (s + 1))) T.length
          rw [← hf, show e - (e - (s + 1)) = s + 1 by omega]
        (repeat' (first | (with_reducible first | intro hg | refine mv (by constructor) ?_) | ((with_reducible first | refine zR ?_ ?_ | refine zW mixed ?_ ?_); exact kr) | ((with_reducible apply zK); exact rfl; exact tf) | ((with_reducible apply zCD); exact rfl) | ((with_reducible apply zCN); exact rfl) | ((with_reducible apply zC); exact rfl) | ((with_reducible refine zX ?_ ?_); exact rfl) | ((with_reducible refine zE (And.intro ?_ ?_)); exact kr) | (with_reducible refine zE ?_) | ((with_reducible apply zP); exact dp) | ((with_reducible apply zN); exact dn) | ((with_reducible apply zA); exact da) | ((with_reducible apply zS); exact ds) | ((with_reducible apply zY); exact rfl; exact rfl; exact tf) | ((with_reducible apply zG); exact rfl; exact rfl; exact tf) | ((with_reducible apply zU); exact rfl; exact rfl) | ((with_reducible apply zD); exact rfl; exact rfl) | ((with_reducible apply zB); exact rfl; exact rfl)))
        exact ⟨(s, innerF f (s + 1) T.length), ⟨by show s ≤ e; omega, hfs⟩, by show s < s + 1; omega, (And.intro rfl (And.intro rfl (And.intro rfl (And.intro rfl (And.intro (congrArg (fun n => AV.d (I n)) (show (((s + 1 : Nat) : Int) - 1) = (s : Int) by omega)) trivial))))), (And.intro rfl (And.intro rfl (And.intro rfl (And.intro rfl trivial))))⟩

end Go.Proofs.YtagpmpbmfjaiiaaGreatDoor
