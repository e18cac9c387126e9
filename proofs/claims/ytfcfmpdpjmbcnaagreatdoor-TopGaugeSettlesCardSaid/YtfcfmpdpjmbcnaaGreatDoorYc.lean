/- The loop of a string, by the package. -/
import Derived.Test.YtfcfmpdpjmbcnaaGreatDoorYb
set_option linter.unusedVariables false
set_option linter.unusedSimpArgs false
namespace Go.Proofs.YtfcfmpdpjmbcnaaGreatDoor
open Go.RowKit
set_option maxRecDepth 20000
set_option maxHeartbeats 8000000

def dropSq : Nat → Code → Code
  | 0, c => c
  | n + 1, .seq _ y => dropSq n y
  | _ + 1, c => c
abbrev zLo : DV := .agg [nilV, I 0]
abbrev plS (n : Int) (f : Bool) (G : List Rg) (b cap : Nat) : AS := ⟨frL ((2, .ptr 2 0) :: (6, .ptr 6 0) :: (7, .ptr 7 0) :: lkF PN b cap 2 G.length), memL ((2, ⟨24, [nilV, I 0]⟩) :: (6, ⟨4, [B f]⟩) :: (7, ⟨24, [lkC b cap G.length, I n]⟩) :: lkM PN 64 (rgS G) G.length)⟩
theorem rgS_len2 (G : List Rg) : (rgS G).length = G.length * 2 := flat_len frC 2 frC_len G
theorem rgS_app (G : List Rg) (r : Rg) : rgS (G ++ [r]) = rgS G ++ frC r := by
  unfold rgS
  rw [List.map_append, List.flatten_append]
  simp
theorem rgS_takeY {G : List Rg} {n : Nat} (h : G.length = n) : (rgS G).take (n * 2) = rgS G := by
  subst h
  exact List.take_of_length_le (by rw [rgS_len2]; exact Nat.le_refl _)
theorem seqY_atG {c : UInt8} {s : List UInt8} {k : Nat} {d : YA} (h : (seqY c s)[k]? = some d) : ∃ p, (cutA c [] s)[k]? = some p ∧ d = .gv [T8 p] := by
  unfold seqY at h
  rw [List.getElem?_map] at h
  obtain ⟨p, h1, h2⟩ := Option.map_eq_some_iff.1 h
  exact ⟨p, h1, h2.symm⟩
theorem plRange (r : List UInt8) (n : Int) (f0 : Bool) (hr : r.length ≤ 60000) (res : DV) (h1 : (f0 && (cutA 44 [] r).all goodW) = true → loE ((cutA 44 [] r).map gP) n = 0 → res = .tuple [loV ((cutA 44 [] r).map gP) n, I 0])
    (h2 : (f0 && (cutA 44 [] r).all goodW) = true → loE ((cutA 44 [] r).map gP) n ≠ 0 → res = .tuple [zLo, I (loE ((cutA 44 [] r).map gP) n)]) (h3 : (f0 && (cutA 44 [] r).all goodW) = false → res = .tuple [zLo, I 7]) (w0 : World) (ok : Nat → Prop) :
    AWp Tryz.prog (ctx0 w0 ok Tryz.f9.ntmps) (dropSq 5 (Tryz.f9.body.getD .skip)) (ARet Tryz.prog Tryz.f9.results.toList res) ⟨frL [(2, .ptr 2 0), (5, .d (T8 r)), (6, .ptr 6 0), (7, .ptr 7 0)], memL [(2, ⟨24, [nilV, I 0]⟩), (6, ⟨4, [B f0]⟩), (7, ⟨24, [nilV, I n]⟩)]⟩ := by
  have hsp := splitSeq2_P r 44
  have hAY := splitSeq1_P r 44 (by omega)
  have hlen := cutA_len 44 r []
  have hmem := cutA_mem 44 r []
  have hpos := cutA_pos 44 r []
  have hyl : (seqY 44 r).length = (cutA 44 [] r).length := by unfold seqY; rw [List.length_map]
  show AWp _ _ (.seq _ _) _ _
  (repeat' (first | (with_reducible first | intro hg | refine mv (by constructor) ?_) | ((with_reducible first | refine zR ?_ ?_ | refine zW mixed ?_ ?_); exact kr) | ((with_reducible apply zK); exact rfl; exact tf) | ((with_reducible apply zCD); exact rfl) | ((with_reducible apply zCN); exact rfl) | ((with_reducible apply zC); exact rfl) | ((with_reducible refine zX ?_ ?_); exact rfl) | ((with_reducible refine zE (And.intro ?_ ?_)); exact kr) | (with_reducible refine zE ?_) | ((with_reducible apply zP); exact dp) | ((with_reducible apply zN); (first | exact dn | exact o_callP rfl hsp)) | ((with_reducible apply zA); exact da) | ((with_reducible apply zS); exact ds) | ((with_reducible apply zY); exact rfl; exact rfl; exact tf) | ((with_reducible apply zG); exact rfl; exact rfl; exact tf) | ((with_reducible apply zU); exact rfl; exact rfl) | ((with_reducible apply zD); exact rfl; exact rfl) | ((with_reducible apply zB); exact rfl; exact rfl)))
  refine awp_rangeFuncP (n0 := 38) (psl := [39]) (xs := seqY 44 r) (fin := true) (fun k (y : List Rg × Nat × Nat) => plS n (f0 && ((cutA 44 [] r).take k).all goodW) y.1 y.2.1 y.2.2)
    (fun k y => k ≤ (cutA 44 [] r).length ∧ y.1 = ((cutA 44 [] r).take k).map gP ∧ LkJ y.2.1 y.2.2 y.1.length) ([], 0, 0) (EntI.eq (P := Tryz.prog) (f := 139)) rfl rfl rfl hAY ⟨Nat.zero_le _, rfl, .inl rfl⟩ (le_of (And.intro rfl (And.intro rfl (And.intro rfl trivial))) (And.intro rfl (And.intro (congrArg (fun b => some (Blk.mk 4 [B b])) (Bool.and_true f0).symm) (And.intro (rfl) trivial)))) (by decide) (fun d hd => by obtain ⟨l, _, rfl⟩ := List.mem_map.1 hd; rfl) (fun k y d hI hd W ok' rd ex gv => ?_) (by simp) (fun _ y hI => ?_)
  rotate_left
  · obtain ⟨G, b, cap⟩ := y
    obtain ⟨_, hG, hj⟩ := hI
    have hG : G = ((cutA 44 [] r).take (seqY 44 r).length).map gP := hG
    have hj : LkJ b cap G.length := hj
    show AWp _ _ _ _ (plS n (f0 && ((cutA 44 [] r).take (seqY 44 r).length).all goodW) G b cap)
    rw [hyl, List.take_length] at hG ⊢
    have hGl : G.length = (cutA 44 [] r).length := by rw [hG, List.length_map]
    rw [← hG] at h1 h2
    have hck := checkLoop_A G n (by omega)
    generalize (f0 && (cutA 44 [] r).all goodW) = f at *
    clear hmem hAY hsp hyl hG
    rcases G with _ | ⟨x, G⟩
    · simp only [List.length_nil] at hGl; omega
    · obtain ⟨hb1, hb2⟩ := hj.resolve_left (by simp)
      refine awp_turn (turns_unlink 7 0 PN (by rfl) (by rfl) (by rfl) (by rfl) (by rfl) (by decide) hb1 hb2) fun _ => ?_
      have hw := rgS_takeY (G := x :: G) (n := G.length + 1) rfl
      have hck' : AC Tryz.prog 48 [.agg [.slice (G.length + 1) ((rgS (x :: G)).take ((G.length + 1) * 2)), I n]] (I (loE (x :: G) n)) := by rw [hw]; exact hck
      clear hck hGl hj hb1 hb2
      generalize loE (x :: G) n = e at *
      cases f
      · obtain rfl := h3 rfl
        clear h1 h2 h3
        have hf : fst0 [unl false 7, e] = 7 := rfl
        have hfn : fst0 [unl false 7, e] ≠ 0 := by rw [hf]; decide
        (repeat' (first | (with_reducible first | intro hg | refine mv (by constructor) ?_) | ((with_reducible first | refine zR ?_ ?_ | refine zW mixed ?_ ?_); exact kr) | ((with_reducible apply zK); exact rfl; exact tf) | ((with_reducible apply zCD); exact rfl) | ((with_reducible apply zCN); exact rfl) | ((with_reducible apply zC); exact rfl) | ((with_reducible refine zX ?_ ?_); exact rfl) | ((with_reducible refine zE (And.intro ?_ ?_)); exact kr) | (with_reducible refine zE ?_) | ((with_reducible apply zP); (first | exact o_buildSlD rfl (by decide) rfl | exact dp | exact oc rfl (hck') | exact oc rfl (unless_A _ _) | exact oc rfl (first2_A _ _))) | ((with_reducible apply zN); exact dn) | ((with_reducible apply zA); exact da) | ((with_reducible apply zS); exact ds) | ((with_reducible apply zY); exact rfl; exact rfl; exact tf) | ((with_reducible apply zG); exact rfl; exact rfl; exact tf) | ((with_reducible apply zU); exact rfl; exact rfl) | ((with_reducible apply zD); exact rfl; exact rfl) | ((with_reducible apply zB); exact rfl; exact rfl)))
        ((with_reducible first | apply q_retR | apply q_retN); exact rl)
        exact congrArg (fun x => DV.tuple [zLo, I x]) hf.symm
      · have hf : fst0 [unl true 7, e] = e := by
          show fst0 [0, e] = e
          rw [fst0_zero, fst0_one]
        by_cases he : e = 0
        · subst he
          obtain rfl := h1 rfl rfl
          clear h1 h2 h3
          (repeat' (first | (with_reducible first | intro hg | refine mv (by constructor) ?_) | ((with_reducible first | refine zR ?_ ?_ | refine zW mixed ?_ ?_); exact kr) | ((with_reducible apply zK); exact rfl; exact tf) | ((with_reducible apply zCD); exact rfl) | ((with_reducible apply zCN); exact rfl) | ((with_reducible apply zC); exact rfl) | ((with_reducible refine zX ?_ ?_); exact rfl) | ((with_reducible refine zE (And.intro ?_ ?_)); exact kr) | (with_reducible refine zE ?_) | ((with_reducible apply zP); (first | exact o_buildSlD rfl (by decide) rfl | exact dp | exact oc rfl (hck') | exact oc rfl (unless_A _ _) | exact oc rfl (first2_A _ _))) | ((with_reducible apply zN); exact dn) | ((with_reducible apply zA); exact da) | ((with_reducible apply zS); exact ds) | ((with_reducible apply zY); exact rfl; exact rfl; exact tf) | ((with_reducible apply zG); exact rfl; exact rfl; exact tf) | ((with_reducible apply zU); exact rfl; exact rfl) | ((with_reducible apply zD); exact rfl; exact rfl) | ((with_reducible apply zB); exact rfl; exact rfl)))
          ((with_reducible first | apply q_retR | apply q_retN); exact rl)
          show DV.tuple [loV (x :: G) n, I 0] = DV.tuple [.agg [.slice (G.length + 1) ((rgS (x :: G)).take ((G.length + 1) * 2)), I n], I 0]
          rw [hw]
          rfl
        · obtain rfl := h2 rfl he
          clear h1 h2 h3
          have hfn : fst0 [unl true 7, e] ≠ 0 := by rw [hf]; exact he
          (repeat' (first | (with_reducible first | intro hg | refine mv (by constructor) ?_) | ((with_reducible first | refine zR ?_ ?_ | refine zW mixed ?_ ?_); exact kr) | ((with_reducible apply zK); exact rfl; exact tf) | ((with_reducible apply zCD); exact rfl) | ((with_reducible apply zCN); exact rfl) | ((with_reducible apply zC); exact rfl) | ((with_reducible refine zX ?_ ?_); exact rfl) | ((with_reducible refine zE (And.intro ?_ ?_)); exact kr) | (with_reducible refine zE ?_) | ((with_reducible apply zP); (first | exact o_buildSlD rfl (by decide) rfl | exact dp | exact oc rfl (hck') | exact oc rfl (unless_A _ _) | exact oc rfl (first2_A _ _))) | ((with_reducible apply zN); exact dn) | ((with_reducible apply zA); exact da) | ((with_reducible apply zS); exact ds) | ((with_reducible apply zY); exact rfl; exact rfl; exact tf) | ((with_reducible apply zG); exact rfl; exact rfl; exact tf) | ((with_reducible apply zU); exact rfl; exact rfl) | ((with_reducible apply zD); exact rfl; exact rfl) | ((with_reducible apply zB); exact rfl; exact rfl)))
          ((with_reducible first | apply q_retR | apply q_retN); exact rl)
          exact congrArg (fun x => DV.tuple [zLo, I x]) hf.symm
  obtain ⟨p, hp, rfl⟩ := seqY_atG hd
  obtain ⟨G, b, cap⟩ := y
  obtain ⟨hk, hG, hj⟩ := hI
  have hG : G = ((cutA 44 [] r).take k).map gP := hG
  have hj : LkJ b cap G.length := hj
  have hklt : k < (cutA 44 [] r).length := (List.getElem?_eq_some_iff.1 hp).1
  have hpl : p.length ≤ r.length := by simpa using hmem p (List.mem_of_getElem? hp)
  obtain ⟨t1, t2⟩ := allG_take hp
  rw [← hG] at t2
  have hGl : G.length = k := by rw [hG, List.length_map, List.length_take, Nat.min_eq_left hk]
  have hc := cutS_A p 32 (by omega)
  have hal : (Lib.cut p [32]).1.length ≤ p.length ∧ (Lib.cut p [32]).2.1.length ≤ p.length := by
    rcases cut_cases 32 p with ⟨e, _⟩ | ⟨a, b', e, _, e2⟩
    · rw [e]; exact ⟨Nat.le_refl _, Nat.zero_le _⟩
    · rw [e]; exact ⟨by show a.length ≤ _; omega, by show b'.length ≤ _; omega⟩
  have na := numG_A (Lib.cut p [32]).1 true (by omega)
  have nb := numG_A (Lib.cut p [32]).2.1 true (by omega)
  have hgd : goodW p = ((Lib.cut p [32]).2.2 && ((numS true 2 (Lib.cut p [32]).1).isSome && (numS true 2 (Lib.cut p [32]).2.1).isSome)) := rfl
  have hgp : gP p = (nAt (Lib.cut p [32]).1, nAt (Lib.cut p [32]).2.1) := rfl
  have hfl : (f0 && ((cutA 44 [] r).take (k + 1)).all goodW) = ((f0 && ((cutA 44 [] r).take k).all goodW) && goodW p) := by rw [t1, Bool.and_assoc]
  rw [hgd] at hfl
  rw [hgp] at t2
  show AWp _ _ _ _ (bodyS (plS n (f0 && ((cutA 44 [] r).take k).all goodW) G b cap) _ _)
  clear hmem hAY hsp h1 h2 h3 hd hyl hpos hgd hgp t1 hG
  generalize (f0 && ((cutA 44 [] r).take k).all goodW) = f at *
  generalize (f0 && ((cutA 44 [] r).take (k + 1)).all goodW) = f' at *
  generalize ((cutA 44 [] r).take (k + 1)).map gP = G' at *
  generalize (cutA 44 [] r).length = m at *
  generalize (numS true 2 (Lib.cut p [32]).1).isSome = ia at *
  generalize (numS true 2 (Lib.cut p [32]).2.1).isSome = ib at *
  generalize nAt (Lib.cut p [32]).1 = va at *
  generalize nAt (Lib.cut p [32]).2.1 = vb at *
  generalize (Lib.cut p [32]).1 = a at *
  generalize (Lib.cut p [32]).2.1 = b' at *
  generalize (Lib.cut p [32]).2.2 = fd at *
  clear hal hp
  subst t2
  have hx2 : (G ++ [(va, vb)]).length = G.length + 1 := by simp
  rcases G with _ | ⟨x, G⟩
  · refine awp_cut [(39, .d (T8 p)), (2, .ptr 2 0), (6, .ptr 6 0), (7, .ptr 7 0), (1000002, .ptr 2 0), (1000006, .ptr 6 0), (1000007, .ptr 7 0)] [(2, ⟨24, [nilV, I 0]⟩), (6, ⟨4, [B f]⟩), (7, ⟨24, [nilV, I n]⟩)] (And.intro rfl (And.intro rfl (And.intro rfl (And.intro rfl (And.intro rfl (And.intro rfl (And.intro rfl trivial))))))) (And.intro rfl (And.intro rfl (And.intro rfl trivial))) ?_
    (repeat' (first | (with_reducible first | intro hg | refine mv (by constructor) ?_) | ((with_reducible first | refine zR ?_ ?_ | refine zW mixed ?_ ?_); exact kr) | ((with_reducible apply zK); exact rfl; exact tf) | ((with_reducible apply zCD); exact rfl) | ((with_reducible apply zCN); exact rfl) | ((with_reducible apply zC); exact rfl) | ((with_reducible refine zX ?_ ?_); exact rfl) | ((with_reducible refine zE (And.intro ?_ ?_)); exact kr) | (with_reducible refine zE ?_) | ((with_reducible apply zP); exact dp) | ((with_reducible apply zN); exact dn) | ((with_reducible apply zA); exact da) | ((with_reducible apply zS); exact ds) | ((with_reducible apply zY); exact rfl; exact rfl; exact tf) | ((with_reducible apply zG); exact rfl; exact rfl; exact tf) | ((with_reducible apply zU); exact rfl; exact rfl) | ((with_reducible apply zD); exact rfl; exact rfl) | ((with_reducible apply zB); exact rfl; exact rfl)))
    refine ⟨rfl, fun W' => ?_⟩
    (repeat' ((fail_if_success (with_reducible show AWp _ _ (.region 10 _ _) _ _)); (first | (with_reducible first | intro hg | refine mv (by constructor) ?_) | ((with_reducible first | refine zR ?_ ?_ | refine zW mixed ?_ ?_); exact kr) | ((with_reducible apply zK); exact rfl; exact tf) | ((with_reducible apply zCD); exact rfl) | ((with_reducible apply zCN); exact rfl) | ((with_reducible apply zC); exact rfl) | ((with_reducible refine zX ?_ ?_); exact rfl) | ((with_reducible refine zE (And.intro ?_ ?_)); exact kr) | (with_reducible refine zE ?_) | ((with_reducible apply zP); (first | exact dp | exact oc rfl (hc) | exact oc rfl (na) | exact oc rfl (nb))) | ((with_reducible apply zN); exact dn) | ((with_reducible apply zA); exact da) | ((with_reducible apply zS); exact ds) | ((with_reducible apply zY); exact rfl; exact rfl; exact tf) | ((with_reducible apply zG); exact rfl; exact rfl; exact tf) | ((with_reducible apply zU); exact rfl; exact rfl) | ((with_reducible apply zD); exact rfl; exact rfl) | ((with_reducible apply zB); exact rfl; exact rfl))))
    refine awp_regionL ?_
    ((refine wpl_run (l1 := [_, _, _, _, _, _, _]) rfl ?_ ?_); exact kr; (repeat' (first | (with_reducible first | intro hg | refine mv (by constructor) ?_) | ((with_reducible first | refine zR ?_ ?_ | refine zW mixed ?_ ?_); exact kr) | ((with_reducible apply zK); exact rfl; exact tf) | ((with_reducible apply zCD); exact rfl) | ((with_reducible apply zCN); exact rfl) | ((with_reducible apply zC); exact rfl) | ((with_reducible refine zX ?_ ?_); exact rfl) | ((with_reducible refine zE (And.intro ?_ ?_)); exact kr) | (with_reducible refine zE ?_) | ((with_reducible apply zP); exact dp) | ((with_reducible apply zN); exact dn) | ((with_reducible apply zA); exact da) | ((with_reducible apply zS); exact ds) | ((with_reducible apply zY); exact rfl; exact rfl; exact tf) | ((with_reducible apply zG); exact rfl; exact rfl; exact tf) | ((with_reducible apply zU); exact rfl; exact rfl) | ((with_reducible apply zD); exact rfl; exact rfl) | ((with_reducible apply zB); exact rfl; exact rfl))))
    refine wpl_turn (turns_pin 62 62 PN (by rfl) (by rfl) (by rfl) (by rfl) (by kernel_rfl)) fun y => ?_
    ((refine wpl_run (l1 := [_, _]) rfl ?_ ?_); exact kr; (repeat' (first | (with_reducible first | intro hg | refine mv (by constructor) ?_) | ((with_reducible first | refine zR ?_ ?_ | refine zW mixed ?_ ?_); exact kr) | ((with_reducible apply zK); exact rfl; exact tf) | ((with_reducible apply zCD); exact rfl) | ((with_reducible apply zCN); exact rfl) | ((with_reducible apply zC); exact rfl) | ((with_reducible refine zX ?_ ?_); exact rfl) | ((with_reducible refine zE (And.intro ?_ ?_)); exact kr) | (with_reducible refine zE ?_) | ((with_reducible apply zP); exact dp) | ((with_reducible apply zN); exact dn) | ((with_reducible apply zA); exact da) | ((with_reducible apply zS); exact ds) | ((with_reducible apply zY); exact rfl; exact rfl; exact tf) | ((with_reducible apply zG); exact rfl; exact rfl; exact tf) | ((with_reducible apply zU); exact rfl; exact rfl) | ((with_reducible apply zD); exact rfl; exact rfl) | ((with_reducible apply zB); exact rfl; exact rfl))))
    refine wpl_nil ?_
    refine awp_cut [(2, .ptr 2 0), (6, .ptr 6 0), (7, .ptr 7 0), (13, .d (B fd)), (15, .d (B ia)), (17, .d (B ib)), (1000002, .ptr 2 0), (1000006, .ptr 6 0), (1000007, .ptr 7 0), (PN, linkP y.1.1 y.1.2 2)] [(2, ⟨24, [nilV, I 0]⟩), (6, ⟨4, [B f]⟩), (7, ⟨24, [linkC y.1.1 y.1.2 1, I n]⟩), (PN, ⟨64, rgS [(va, vb)]⟩)] (And.intro rfl (And.intro rfl (And.intro rfl (And.intro rfl (And.intro rfl (And.intro rfl (And.intro rfl (And.intro rfl (And.intro rfl (And.intro rfl trivial)))))))))) (And.intro rfl (And.intro rfl (And.intro rfl (And.intro rfl trivial)))) ?_
    subst hfl
    clear hc na nb
    cases f <;> cases fd <;> cases ia <;> cases ib
    all_goals
      (repeat' (first | (with_reducible first | intro hg | refine mv (by constructor) ?_) | ((with_reducible first | refine zR ?_ ?_ | refine zW mixed ?_ ?_); exact kr) | ((with_reducible apply zK); exact rfl; exact tf) | ((with_reducible apply zCD); exact rfl) | ((with_reducible apply zCN); exact rfl) | ((with_reducible apply zC); exact rfl) | ((with_reducible refine zX ?_ ?_); exact rfl) | ((with_reducible refine zE (And.intro ?_ ?_)); exact kr) | (with_reducible refine zE ?_) | ((with_reducible apply zP); exact dp) | ((with_reducible apply zN); exact dn) | ((with_reducible apply zA); exact da) | ((with_reducible apply zS); exact ds) | ((with_reducible apply zY); exact rfl; exact rfl; exact tf) | ((with_reducible apply zG); exact rfl; exact rfl; exact tf) | ((with_reducible apply zU); exact rfl; exact rfl) | ((with_reducible apply zD); exact rfl; exact rfl) | ((with_reducible apply zB); exact rfl; exact rfl)))
      exact ⟨trivial, ([(va, vb)], y.1.1, y.1.2), ⟨hklt, rfl, .inr y.2⟩, le_of (And.intro rfl (And.intro rfl (And.intro rfl (And.intro rfl trivial)))) (And.intro rfl (And.intro rfl (And.intro rfl (And.intro rfl trivial))))⟩
  · obtain ⟨ha1, ha2⟩ := hj.resolve_left (by simp)
    have hx1 : (rgS (x :: G)).length = (G.length + 1) * 2 := rgS_len2 (x :: G)
    have hl1 : G.length + 1 = k := by simpa using hGl
    have hbl : some (Blk.mk 64 (rgS (x :: G) ++ [I va, I vb])) = some ⟨64, rgS (x :: (G ++ [(va, vb)]))⟩ := by
      rw [← List.cons_append, rgS_app]
    refine awp_cut [(39, .d (T8 p)), (2, .ptr 2 0), (6, .ptr 6 0), (7, .ptr 7 0), (1000002, .ptr 2 0), (1000006, .ptr 6 0), (1000007, .ptr 7 0), (PN, linkP b cap 2)] [(2, ⟨24, [nilV, I 0]⟩), (6, ⟨4, [B f]⟩), (7, ⟨24, [linkC b cap (G.length + 1), I n]⟩), (PN, ⟨64, rgS (x :: G)⟩)] (And.intro rfl (And.intro rfl (And.intro rfl (And.intro rfl (And.intro rfl (And.intro rfl (And.intro rfl (And.intro rfl trivial)))))))) (And.intro rfl (And.intro rfl (And.intro rfl (And.intro rfl trivial)))) ?_
    (repeat' (first | (with_reducible first | intro hg | refine mv (by constructor) ?_) | ((with_reducible first | refine zR ?_ ?_ | refine zW mixed ?_ ?_); exact kr) | ((with_reducible apply zK); exact rfl; exact tf) | ((with_reducible apply zCD); exact rfl) | ((with_reducible apply zCN); exact rfl) | ((with_reducible apply zC); exact rfl) | ((with_reducible refine zX ?_ ?_); exact rfl) | ((with_reducible refine zE (And.intro ?_ ?_)); exact kr) | (with_reducible refine zE ?_) | ((with_reducible apply zP); exact dp) | ((with_reducible apply zN); exact dn) | ((with_reducible apply zA); exact da) | ((with_reducible apply zS); exact ds) | ((with_reducible apply zY); exact rfl; exact rfl; exact tf) | ((with_reducible apply zG); exact rfl; exact rfl; exact tf) | ((with_reducible apply zU); exact rfl; exact rfl) | ((with_reducible apply zD); exact rfl; exact rfl) | ((with_reducible apply zB); exact rfl; exact rfl)))
    refine ⟨rfl, fun W' => ?_⟩
    (repeat' ((fail_if_success (with_reducible show AWp _ _ (.region 10 _ _) _ _)); (first | (with_reducible first | intro hg | refine mv (by constructor) ?_) | ((with_reducible first | refine zR ?_ ?_ | refine zW mixed ?_ ?_); exact kr) | ((with_reducible apply zK); exact rfl; exact tf) | ((with_reducible apply zCD); exact rfl) | ((with_reducible apply zCN); exact rfl) | ((with_reducible apply zC); exact rfl) | ((with_reducible refine zX ?_ ?_); exact rfl) | ((with_reducible refine zE (And.intro ?_ ?_)); exact kr) | (with_reducible refine zE ?_) | ((with_reducible apply zP); (first | exact dp | exact oc rfl (hc) | exact oc rfl (na) | exact oc rfl (nb))) | ((with_reducible apply zN); exact dn) | ((with_reducible apply zA); exact da) | ((with_reducible apply zS); exact ds) | ((with_reducible apply zY); exact rfl; exact rfl; exact tf) | ((with_reducible apply zG); exact rfl; exact rfl; exact tf) | ((with_reducible apply zU); exact rfl; exact rfl) | ((with_reducible apply zD); exact rfl; exact rfl) | ((with_reducible apply zB); exact rfl; exact rfl))))
    refine awp_regionL ?_
    ((refine wpl_run (l1 := [_, _, _, _, _, _, _]) rfl ?_ ?_); exact kr; (repeat' (first | (with_reducible first | intro hg | refine mv (by constructor) ?_) | ((with_reducible first | refine zR ?_ ?_ | refine zW mixed ?_ ?_); exact kr) | ((with_reducible apply zK); exact rfl; exact tf) | ((with_reducible apply zCD); exact rfl) | ((with_reducible apply zCN); exact rfl) | ((with_reducible apply zC); exact rfl) | ((with_reducible refine zX ?_ ?_); exact rfl) | ((with_reducible refine zE (And.intro ?_ ?_)); exact kr) | (with_reducible refine zE ?_) | ((with_reducible apply zP); (first | exact o_loadLk (L := PN) (sz := 2) rfl rfl rfl rfl (by rfl) (by exact ha1) (by exact ha2) | exact dp)) | ((with_reducible apply zN); exact dn) | ((with_reducible apply zA); (first | ((apply o_app); (case hx => exact rfl); (case hm => exact rfl); (case hy => exact .own rfl rfl); (case hty => exact rfl); (case hl => solve | exact hx1 | rfl); (case hcl => solve | rfl | exact hx1 | simp); (case hpos => omega); (case hb => omega); (case hb2 => omega); (case hnew => exact rfl)) | ((apply o_app); (case hx => exact rfl); (case hm => exact rfl); (case hy => exact .sl rfl); (case hty => exact rfl); (case hl => solve | exact hx1 | rfl); (case hcl => solve | rfl | exact hx1 | simp); (case hpos => omega); (case hb => omega); (case hb2 => omega); (case hnew => exact rfl)) | exact da)) | ((with_reducible apply zS); exact ds) | ((with_reducible apply zY); exact rfl; exact rfl; exact tf) | ((with_reducible apply zG); exact rfl; exact rfl; exact tf) | ((with_reducible apply zU); exact rfl; exact rfl) | ((with_reducible apply zD); exact rfl; exact rfl) | ((with_reducible apply zB); exact rfl; exact rfl))))
    refine wpl_turn (turns_pin 62 62 PN (by rfl) (by rfl) (by rfl) (by rfl) (by kernel_rfl)) fun y => ?_
    ((refine wpl_run (l1 := [_, _]) rfl ?_ ?_); exact kr; (repeat' (first | (with_reducible first | intro hg | refine mv (by constructor) ?_) | ((with_reducible first | refine zR ?_ ?_ | refine zW mixed ?_ ?_); exact kr) | ((with_reducible apply zK); exact rfl; exact tf) | ((with_reducible apply zCD); exact rfl) | ((with_reducible apply zCN); exact rfl) | ((with_reducible apply zC); exact rfl) | ((with_reducible refine zX ?_ ?_); exact rfl) | ((with_reducible refine zE (And.intro ?_ ?_)); exact kr) | (with_reducible refine zE ?_) | ((with_reducible apply zP); exact dp) | ((with_reducible apply zN); exact dn) | ((with_reducible apply zA); exact da) | ((with_reducible apply zS); exact ds) | ((with_reducible apply zY); exact rfl; exact rfl; exact tf) | ((with_reducible apply zG); exact rfl; exact rfl; exact tf) | ((with_reducible apply zU); exact rfl; exact rfl) | ((with_reducible apply zD); exact rfl; exact rfl) | ((with_reducible apply zB); exact rfl; exact rfl))))
    refine wpl_nil ?_
    obtain ⟨⟨b2, cap2⟩, hb1, hb2⟩ := y
    have hln : (x :: G ++ [(va, vb)]).length = G.length + 1 + 1 := by simp
    refine awp_cut [(2, .ptr 2 0), (6, .ptr 6 0), (7, .ptr 7 0), (13, .d (B fd)), (15, .d (B ia)), (17, .d (B ib)), (1000002, .ptr 2 0), (1000006, .ptr 6 0), (1000007, .ptr 7 0), (PN, linkP b2 cap2 2)] [(2, ⟨24, [nilV, I 0]⟩), (6, ⟨4, [B f]⟩), (7, ⟨24, [linkC b2 cap2 (G.length + 1 + 1), I n]⟩), (PN, ⟨64, rgS (x :: (G ++ [(va, vb)]))⟩)] (And.intro rfl (And.intro rfl (And.intro rfl (And.intro rfl (And.intro rfl (And.intro rfl (And.intro rfl (And.intro rfl (And.intro rfl (And.intro rfl trivial)))))))))) (And.intro rfl (And.intro rfl (And.intro rfl (And.intro (hbl) trivial)))) ?_
    clear hc na nb hx1
    subst hfl
    cases f <;> cases fd <;> cases ia <;> cases ib
    all_goals
      (repeat' (first | (with_reducible first | intro hg | refine mv (by constructor) ?_) | ((with_reducible first | refine zR ?_ ?_ | refine zW mixed ?_ ?_); exact kr) | ((with_reducible apply zK); exact rfl; exact tf) | ((with_reducible apply zCD); exact rfl) | ((with_reducible apply zCN); exact rfl) | ((with_reducible apply zC); exact rfl) | ((with_reducible refine zX ?_ ?_); exact rfl) | ((with_reducible refine zE (And.intro ?_ ?_)); exact kr) | (with_reducible refine zE ?_) | ((with_reducible apply zP); exact dp) | ((with_reducible apply zN); exact dn) | ((with_reducible apply zA); exact da) | ((with_reducible apply zS); exact ds) | ((with_reducible apply zY); exact rfl; exact rfl; exact tf) | ((with_reducible apply zG); exact rfl; exact rfl; exact tf) | ((with_reducible apply zU); exact rfl; exact rfl) | ((with_reducible apply zD); exact rfl; exact rfl) | ((with_reducible apply zB); exact rfl; exact rfl)))
      refine ⟨trivial, (x :: G ++ [(va, vb)], b2, cap2), ⟨hklt, rfl, .inr ⟨by rw [hln]; exact hb1, hb2⟩⟩, ?_⟩
      show AS.le _ (plS n _ (x :: (G ++ [(va, vb)])) b2 cap2)
      unfold plS
      rw [show (x :: (G ++ [(va, vb)])).length = G.length + 1 + 1 from hln]
      exact le_of (And.intro rfl (And.intro rfl (And.intro rfl (And.intro rfl trivial)))) (And.intro rfl (And.intro rfl (And.intro rfl (And.intro rfl trivial))))
theorem parseLoop_A (s : List UInt8) (hs : s.length ≤ 60000) (res : DV) (h0 : loopP (cutA 59 [] s) = none → res = .tuple [zLo, I 7])
    (h1 : ∀ x l, loopP (cutA 59 [] s) = some (x, l) → loE l x = 0 → res = .tuple [loV l x, I 0]) (h2 : ∀ x l, loopP (cutA 59 [] s) = some (x, l) → loE l x ≠ 0 → res = .tuple [zLo, I (loE l x)]) :
    AC Tryz.prog 9 [T8 s] res := by
  have hw := loop_way s
  have hct := cutS_A s 59 (by omega)
  have hal : (Lib.cut s [59]).1.length ≤ s.length ∧ (Lib.cut s [59]).2.1.length ≤ s.length := by
    rcases cut_cases 59 s with ⟨e, _⟩ | ⟨a, b', e, _, e2⟩
    · rw [e]; exact ⟨Nat.le_refl _, Nat.zero_le _⟩
    · rw [e]; exact ⟨by show a.length ≤ _; omega, by show b'.length ≤ _; omega⟩
  have hn := numG_A (Lib.cut s [59]).1 false (by omega)
  have hrg := fun w0 ok => plRange (Lib.cut s [59]).2.1 (nAt (Lib.cut s [59]).1) ((Lib.cut s [59]).2.2 && (numS false 2 (Lib.cut s [59]).1).isSome) (by omega) res
    (fun h => h1 _ _ (by rw [hw]; exact if_pos h)) (fun h => h2 _ _ (by rw [hw]; exact if_pos h)) (fun h => h0 (by rw [hw]; exact if_neg (by unfold lpF; rw [h]; decide))) w0 ok
  clear hw h0 h1 h2 hal
  generalize (numS false 2 (Lib.cut s [59]).1).isSome = i0 at *
  generalize nAt (Lib.cut s [59]).1 = n at *
  generalize (Lib.cut s [59]).1 = d at *
  generalize (Lib.cut s [59]).2.1 = r at *
  generalize (Lib.cut s [59]).2.2 = fd at *
  cases fd <;> cases i0
  all_goals
    refine ac_body Tryz.func9 rfl (by kernel_rfl) fun w0 ok => ?_; show AWp _ (ctx0 w0 ok _) _ (ARet _ _ _) (entry _)
    (repeat' ((fail_if_success (with_reducible show AWp _ _ (.seq (.seq (.region 5 _ _) _) _) _ _)); (first | (with_reducible first | intro hg | refine mv (by constructor) ?_) | ((with_reducible first | refine zR ?_ ?_ | refine zW mixed ?_ ?_); exact kr) | ((with_reducible apply zK); exact rfl; exact tf) | ((with_reducible apply zCD); exact rfl) | ((with_reducible apply zCN); exact rfl) | ((with_reducible apply zC); exact rfl) | ((with_reducible refine zX ?_ ?_); exact rfl) | ((with_reducible refine zE (And.intro ?_ ?_)); exact kr) | (with_reducible refine zE ?_) | ((with_reducible apply zP); (first | exact dp | exact oc rfl (hct) | exact oc rfl (hn))) | ((with_reducible apply zN); exact dn) | ((with_reducible apply zA); exact da) | ((with_reducible apply zS); exact ds) | ((with_reducible apply zY); exact rfl; exact rfl; exact tf) | ((with_reducible apply zG); exact rfl; exact rfl; exact tf) | ((with_reducible apply zU); exact rfl; exact rfl) | ((with_reducible apply zD); exact rfl; exact rfl) | ((with_reducible apply zB); exact rfl; exact rfl))))
    refine awp_weaken (le_of (l := [(2, .ptr 2 0), (5, .d (T8 r)), (6, .ptr 6 0), (7, .ptr 7 0)]) (m := [(2, ⟨24, [nilV, I 0]⟩), (6, ⟨4, [B _]⟩), (7, ⟨24, [nilV, I n]⟩)]) (And.intro rfl (And.intro rfl (And.intro rfl (And.intro rfl trivial)))) (And.intro rfl (And.intro rfl (And.intro rfl trivial)))) ?_
    exact hrg w0 ok

end Go.Proofs.YtfcfmpdpjmbcnaaGreatDoor
