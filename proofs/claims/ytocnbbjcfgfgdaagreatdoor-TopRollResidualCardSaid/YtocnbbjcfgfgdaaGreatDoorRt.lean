/- Strings of rolls: the roll of a string by the reference, equal rolls, back and forth. -/
import Derived.Test.YtocnbbjcfgfgdaaGreatDoorRs
import Derived.Test.YtocnbbjcfgfgdaaGreatDoorNy
import Derived.Test.YtocnbbjcfgfgdaaGreatDoorW2
import Derived.Test.YtocnbbjcfgfgdaaGreatDoorM6
set_option linter.unusedVariables false
set_option linter.unusedSimpArgs false
namespace Go.Proofs.YtocnbbjcfgfgdaaGreatDoor
open Go.RowKit
set_option maxRecDepth 20000
set_option maxHeartbeats 8000000

theorem natN_cases (l : List UInt8) : (numN l 4 = none ∧ natN l = none) ∨ ∃ p, numN l 4 = some p ∧ 0 < l.length ∧ (((l.getD 0 0).toNat = 45 ∧ natN l = none) ∨ ((l.getD 0 0).toNat ≠ 45 ∧ natN l = some p)) := by
  cases h : numN l 4 with
  | none =>
    refine .inl ⟨rfl, ?_⟩
    unfold natN
    rw [h]; split <;> rfl
  | some p =>
    have h0 : 0 < l.length := Nat.pos_of_ne_zero fun e => by
      rw [List.length_eq_zero_iff.1 e] at h
      rw [show numN [] 4 = none from rfl] at h; cases h
    refine .inr ⟨p, rfl, h0, ?_⟩
    have hd := head_getD h0
    unfold natN
    rw [hd]
    by_cases hx : l.getD 0 0 = 45
    · exact .inl ⟨by rw [hx]; rfl, by rw [if_pos (congrArg some hx)]⟩
    · exact .inr ⟨fun e => hx (u8_ext e), by rw [if_neg (fun e => hx (Option.some.inj e)), h]⟩
theorem refParse_A (l : List UInt8) (hl : l.length ≤ 1000000) : AC Tryz.prog 8 [T8 l] (.tuple [dR (prsD l).1, I (prsD l).2]) := by
  have hs : AC Tryz.prog 36 [T8 l, .val (.int .u8 32)] (tsl (cutA 32 [] l)) := cut_A l 32 hl
  have hmem := cutA_mem 32 l []
  by_cases h3 : (cutA 32 [] l).length = 3
  rotate_left
  · rw [prsD_len h3]
    have hpos := cutA_pos 32 l []
    generalize cutA 32 [] l = ps at *
    have h3' : ¬ (ps.length : Int) = 3 := by omega
    refine ac_body Tryz.func8 rfl (by kernel_rfl) fun w0 ok => ?_; show AWp _ (ctx0 w0 ok _) _ (ARet _ _ _) (entry _)
    (repeat' (first | (with_reducible first | intro hg | refine mv (by constructor) ?_) | ((with_reducible first | refine zR ?_ ?_ | refine zW mixed ?_ ?_); exact kr) | ((with_reducible apply zK); exact rfl; exact tf) | ((with_reducible apply zCD); exact rfl) | ((with_reducible apply zCN); exact rfl) | ((with_reducible apply zC); exact rfl) | ((with_reducible refine zX ?_ ?_); exact rfl) | ((with_reducible refine zE (And.intro ?_ ?_)); exact kr) | (with_reducible refine zE ?_) | ((with_reducible apply zP); (first | exact dp | exact oc rfl (hs))) | ((with_reducible apply zN); exact dn) | ((with_reducible apply zA); exact da) | ((with_reducible apply zS); exact ds) | ((with_reducible apply zY); exact rfl; exact rfl; exact tf) | ((with_reducible apply zG); exact rfl; exact rfl; exact tf) | ((with_reducible apply zU); exact rfl; exact rfl) | ((with_reducible apply zD); exact rfl; exact rfl) | ((with_reducible apply zB); exact rfl; exact rfl)))
    ((with_reducible first | apply q_retR | apply q_retN); exact rl)
    rfl
  obtain ⟨a, b, c, e⟩ := three_of h3
  rw [prsD_three e]
  rw [e] at hs hmem
  have ha := hmem a (by simp)
  have hb := hmem b (by simp)
  have hc := hmem c (by simp)
  simp only [List.length_nil, Nat.zero_add] at ha hb hc
  have nb : AC Tryz.prog 37 [T8 b, I 4] _ := number_A b 4 (by decide) (by omega)
  have nc : AC Tryz.prog 37 [T8 c, I 4] _ := number_A c 4 (by decide) (by omega)
  have e0 : ∀ {l : List UInt8}, ¬ l = [] → l.isEmpty = false := fun h => by simpa using h
  by_cases hae : a = []
  · subst hae
    refine ac_body Tryz.func8 rfl (by kernel_rfl) fun w0 ok => ?_; show AWp _ (ctx0 w0 ok _) _ (ARet _ _ _) (entry _)
    (repeat' (first | (with_reducible first | intro hg | refine mv (by constructor) ?_) | ((with_reducible first | refine zR ?_ ?_ | refine zW mixed ?_ ?_); exact kr) | ((with_reducible apply zK); exact rfl; exact tf) | ((with_reducible apply zCD); exact rfl) | ((with_reducible apply zCN); exact rfl) | ((with_reducible apply zC); exact rfl) | ((with_reducible refine zX ?_ ?_); exact rfl) | ((with_reducible refine zE (And.intro ?_ ?_)); exact kr) | (with_reducible refine zE ?_) | ((with_reducible apply zP); (first | exact o_indexI (j := 0) (xs := [[], b, c]) (f := T8) rfl rfl (by show 0 < 3; decide) rfl | exact o_eqlT rfl rfl | exact dp | exact oc rfl (hs))) | ((with_reducible apply zN); exact dn) | ((with_reducible apply zA); exact da) | ((with_reducible apply zS); exact ds) | ((with_reducible apply zY); exact rfl; exact rfl; exact tf) | ((with_reducible apply zG); exact rfl; exact rfl; exact tf) | ((with_reducible apply zU); exact rfl; exact rfl) | ((with_reducible apply zD); exact rfl; exact rfl) | ((with_reducible apply zB); exact rfl; exact rfl)))
    ((with_reducible first | apply q_retR | apply q_retN); exact rl)
    rfl
  rw [e0 hae]
  rcases natN_cases b with ⟨b1, b2⟩ | ⟨p, b1, b0, b2⟩
  · rw [b1] at nb
    rw [b2]
    refine ac_body Tryz.func8 rfl (by kernel_rfl) fun w0 ok => ?_; show AWp _ (ctx0 w0 ok _) _ (ARet _ _ _) (entry _)
    (repeat' (first | (with_reducible first | intro hg | refine mv (by constructor) ?_ | refine awp_loopU ?_ | refine awpL_step ?_) | ((with_reducible first | refine zR ?_ ?_ | refine zW mixed ?_ ?_); exact kr) | ((with_reducible apply zK); exact rfl; exact tf) | ((with_reducible apply zCD); exact rfl) | ((with_reducible apply zCN); exact rfl) | ((with_reducible apply zC); exact rfl) | ((with_reducible refine zX ?_ ?_); exact rfl) | ((with_reducible refine zE (And.intro ?_ ?_)); exact kr) | (with_reducible refine zE ?_) | ((with_reducible apply zP); (first | exact o_indexI (j := 0) (xs := [a, b, c]) (f := T8) rfl rfl (by show 0 < 3; decide) rfl | exact o_indexI (j := 1) (xs := [a, b, c]) (f := T8) rfl rfl (by show 1 < 3; decide) rfl | exact o_indexI (j := 2) (xs := [a, b, c]) (f := T8) rfl rfl (by show 2 < 3; decide) rfl | exact o_eqlT rfl rfl | exact dp | exact oc rfl (hs) | exact oc rfl (nb) | exact oc rfl (nc))) | ((with_reducible apply zN); exact dn) | ((with_reducible apply zA); exact da) | ((with_reducible apply zS); (first | exact st8 (new := [_, _, _]) | exact ds)) | ((with_reducible apply zY); exact rfl; exact rfl; exact tf) | ((with_reducible apply zG); exact rfl; exact rfl; exact tf) | ((with_reducible apply zU); exact rfl; exact rfl) | ((with_reducible apply zD); exact rfl; exact rfl) | ((with_reducible apply zB); exact rfl; exact rfl)))
    ((with_reducible first | apply q_retR | apply q_retN); exact rl)
    rfl
  rw [b1] at nb
  rcases b2 with ⟨b2, b3⟩ | ⟨b2, b3⟩
  · rw [b3]
    have b4 : ((b.getD 0 0).toNat : Int) = 45 := by omega
    refine ac_body Tryz.func8 rfl (by kernel_rfl) fun w0 ok => ?_; show AWp _ (ctx0 w0 ok _) _ (ARet _ _ _) (entry _)
    (repeat' (first | (with_reducible first | intro hg | refine mv (by constructor) ?_ | refine awp_loopU ?_ | refine awpL_step ?_) | ((with_reducible first | refine zR ?_ ?_ | refine zW mixed ?_ ?_); exact kr) | ((with_reducible apply zK); exact rfl; exact tf) | ((with_reducible apply zCD); exact rfl) | ((with_reducible apply zCN); exact rfl) | ((with_reducible apply zC); exact rfl) | ((with_reducible refine zX ?_ ?_); exact rfl) | ((with_reducible refine zE (And.intro ?_ ?_)); exact kr) | (with_reducible refine zE ?_) | ((with_reducible apply zP); (first | exact o_indexT8 (i := 0) rfl rfl b0 | exact o_indexI (j := 0) (xs := [a, b, c]) (f := T8) rfl rfl (by show 0 < 3; decide) rfl | exact o_indexI (j := 1) (xs := [a, b, c]) (f := T8) rfl rfl (by show 1 < 3; decide) rfl | exact o_indexI (j := 2) (xs := [a, b, c]) (f := T8) rfl rfl (by show 2 < 3; decide) rfl | exact o_eqlT rfl rfl | exact dp | exact oc rfl (hs) | exact oc rfl (nb) | exact oc rfl (nc))) | ((with_reducible apply zN); exact dn) | ((with_reducible apply zA); exact da) | ((with_reducible apply zS); (first | exact st8 (new := [_, _, _]) | exact ds)) | ((with_reducible apply zY); exact rfl; exact rfl; exact tf) | ((with_reducible apply zG); exact rfl; exact rfl; exact tf) | ((with_reducible apply zU); exact rfl; exact rfl) | ((with_reducible apply zD); exact rfl; exact rfl) | ((with_reducible apply zB); exact rfl; exact rfl)))
    ((with_reducible first | apply q_retR | apply q_retN); exact rl)
    rfl
  rw [b3]
  have b4 : ¬ ((b.getD 0 0).toNat : Int) = 45 := by omega
  rcases natN_cases c with ⟨c1, c2⟩ | ⟨o, c1, c0, c2⟩
  · rw [c1] at nc
    rw [c2]
    refine ac_body Tryz.func8 rfl (by kernel_rfl) fun w0 ok => ?_; show AWp _ (ctx0 w0 ok _) _ (ARet _ _ _) (entry _)
    (repeat' (first | (with_reducible first | intro hg | refine mv (by constructor) ?_ | refine awp_loopU ?_ | refine awpL_step ?_) | ((with_reducible first | refine zR ?_ ?_ | refine zW mixed ?_ ?_); exact kr) | ((with_reducible apply zK); exact rfl; exact tf) | ((with_reducible apply zCD); exact rfl) | ((with_reducible apply zCN); exact rfl) | ((with_reducible apply zC); exact rfl) | ((with_reducible refine zX ?_ ?_); exact rfl) | ((with_reducible refine zE (And.intro ?_ ?_)); exact kr) | (with_reducible refine zE ?_) | ((with_reducible apply zP); (first | exact o_indexT8 (i := 0) rfl rfl b0 | exact o_indexI (j := 0) (xs := [a, b, c]) (f := T8) rfl rfl (by show 0 < 3; decide) rfl | exact o_indexI (j := 1) (xs := [a, b, c]) (f := T8) rfl rfl (by show 1 < 3; decide) rfl | exact o_indexI (j := 2) (xs := [a, b, c]) (f := T8) rfl rfl (by show 2 < 3; decide) rfl | exact o_eqlT rfl rfl | exact dp | exact oc rfl (hs) | exact oc rfl (nb) | exact oc rfl (nc))) | ((with_reducible apply zN); exact dn) | ((with_reducible apply zA); exact da) | ((with_reducible apply zS); (first | exact st8 (new := [_, _, _]) | exact ds)) | ((with_reducible apply zY); exact rfl; exact rfl; exact tf) | ((with_reducible apply zG); exact rfl; exact rfl; exact tf) | ((with_reducible apply zU); exact rfl; exact rfl) | ((with_reducible apply zD); exact rfl; exact rfl) | ((with_reducible apply zB); exact rfl; exact rfl)))
    ((with_reducible first | apply q_retR | apply q_retN); exact rl)
    rfl
  rw [c1] at nc
  rcases c2 with ⟨c2, c3⟩ | ⟨c2, c3⟩
  · rw [c3]
    have c4 : ((c.getD 0 0).toNat : Int) = 45 := by omega
    refine ac_body Tryz.func8 rfl (by kernel_rfl) fun w0 ok => ?_; show AWp _ (ctx0 w0 ok _) _ (ARet _ _ _) (entry _)
    (repeat' (first | (with_reducible first | intro hg | refine mv (by constructor) ?_ | refine awp_loopU ?_ | refine awpL_step ?_) | ((with_reducible first | refine zR ?_ ?_ | refine zW mixed ?_ ?_); exact kr) | ((with_reducible apply zK); exact rfl; exact tf) | ((with_reducible apply zCD); exact rfl) | ((with_reducible apply zCN); exact rfl) | ((with_reducible apply zC); exact rfl) | ((with_reducible refine zX ?_ ?_); exact rfl) | ((with_reducible refine zE (And.intro ?_ ?_)); exact kr) | (with_reducible refine zE ?_) | ((with_reducible apply zP); (first | exact o_indexT8 (a := b) (i := 0) rfl rfl b0 | exact o_indexT8 (a := c) (i := 0) rfl rfl c0 | exact o_indexI (j := 0) (xs := [a, b, c]) (f := T8) rfl rfl (by show 0 < 3; decide) rfl | exact o_indexI (j := 1) (xs := [a, b, c]) (f := T8) rfl rfl (by show 1 < 3; decide) rfl | exact o_indexI (j := 2) (xs := [a, b, c]) (f := T8) rfl rfl (by show 2 < 3; decide) rfl | exact o_eqlT rfl rfl | exact dp | exact oc rfl (hs) | exact oc rfl (nb) | exact oc rfl (nc))) | ((with_reducible apply zN); exact dn) | ((with_reducible apply zA); exact da) | ((with_reducible apply zS); (first | exact st8 (new := [_, _, _]) | exact ds)) | ((with_reducible apply zY); exact rfl; exact rfl; exact tf) | ((with_reducible apply zG); exact rfl; exact rfl; exact tf) | ((with_reducible apply zU); exact rfl; exact rfl) | ((with_reducible apply zD); exact rfl; exact rfl) | ((with_reducible apply zB); exact rfl; exact rfl)))
    ((with_reducible first | apply q_retR | apply q_retN); exact rl)
    rfl
  rw [c3]
  have c4 : ¬ ((c.getD 0 0).toNat : Int) = 45 := by omega
  have hck := bDrum_A ⟨a.toArray⟩ p o (by rw [T8_size]; omega)
  show AC _ _ _ (.tuple [dR (bif drumErr ⟨a.toArray⟩ p o == 0 then ((a, p, o), 0) else (([], 0, 0), drumErr ⟨a.toArray⟩ p o)).1, I (bif drumErr ⟨a.toArray⟩ p o == 0 then ((a, p, o), 0) else (([], 0, 0), drumErr ⟨a.toArray⟩ p o)).2])
  generalize drumErr ⟨a.toArray⟩ p o = u at *
  by_cases hu : u = 0
  · subst hu
    refine ac_body Tryz.func8 rfl (by kernel_rfl) fun w0 ok => ?_; show AWp _ (ctx0 w0 ok _) _ (ARet _ _ _) (entry _)
    (repeat' (first | (with_reducible first | intro hg | refine mv (by constructor) ?_ | refine awp_loopU ?_ | refine awpL_step ?_) | ((with_reducible first | refine zR ?_ ?_ | refine zW mixed ?_ ?_); exact kr) | ((with_reducible apply zK); exact rfl; exact tf) | ((with_reducible apply zCD); exact rfl) | ((with_reducible apply zCN); exact rfl) | ((with_reducible apply zC); exact rfl) | ((with_reducible refine zX ?_ ?_); exact rfl) | ((with_reducible refine zE (And.intro ?_ ?_)); exact kr) | (with_reducible refine zE ?_) | ((with_reducible apply zP); (first | exact o_indexT8 (a := b) (i := 0) rfl rfl b0 | exact o_indexT8 (a := c) (i := 0) rfl rfl c0 | exact o_indexI (j := 0) (xs := [a, b, c]) (f := T8) rfl rfl (by show 0 < 3; decide) rfl | exact o_indexI (j := 1) (xs := [a, b, c]) (f := T8) rfl rfl (by show 1 < 3; decide) rfl | exact o_indexI (j := 2) (xs := [a, b, c]) (f := T8) rfl rfl (by show 2 < 3; decide) rfl | exact o_eqlT rfl rfl | exact dp | exact oc rfl (hs) | exact oc rfl (nb) | exact oc rfl (nc) | exact oc rfl (hck))) | ((with_reducible apply zN); exact dn) | ((with_reducible apply zA); exact da) | ((with_reducible apply zS); (first | exact st8 (new := [_, _, _]) | exact ds)) | ((with_reducible apply zY); exact rfl; exact rfl; exact tf) | ((with_reducible apply zG); exact rfl; exact rfl; exact tf) | ((with_reducible apply zU); exact rfl; exact rfl) | ((with_reducible apply zD); exact rfl; exact rfl) | ((with_reducible apply zB); exact rfl; exact rfl)))
    ((with_reducible first | apply q_retR | apply q_retN); exact rl)
    rfl
  · rw [show (u == 0) = false from beq_eq_false_iff_ne.2 hu]
    refine ac_body Tryz.func8 rfl (by kernel_rfl) fun w0 ok => ?_; show AWp _ (ctx0 w0 ok _) _ (ARet _ _ _) (entry _)
    (repeat' (first | (with_reducible first | intro hg | refine mv (by constructor) ?_ | refine awp_loopU ?_ | refine awpL_step ?_) | ((with_reducible first | refine zR ?_ ?_ | refine zW mixed ?_ ?_); exact kr) | ((with_reducible apply zK); exact rfl; exact tf) | ((with_reducible apply zCD); exact rfl) | ((with_reducible apply zCN); exact rfl) | ((with_reducible apply zC); exact rfl) | ((with_reducible refine zX ?_ ?_); exact rfl) | ((with_reducible refine zE (And.intro ?_ ?_)); exact kr) | (with_reducible refine zE ?_) | ((with_reducible apply zP); (first | exact o_indexT8 (a := b) (i := 0) rfl rfl b0 | exact o_indexT8 (a := c) (i := 0) rfl rfl c0 | exact o_indexI (j := 0) (xs := [a, b, c]) (f := T8) rfl rfl (by show 0 < 3; decide) rfl | exact o_indexI (j := 1) (xs := [a, b, c]) (f := T8) rfl rfl (by show 1 < 3; decide) rfl | exact o_indexI (j := 2) (xs := [a, b, c]) (f := T8) rfl rfl (by show 2 < 3; decide) rfl | exact o_eqlT rfl rfl | exact dp | exact oc rfl (hs) | exact oc rfl (nb) | exact oc rfl (nc) | exact oc rfl (hck))) | ((with_reducible apply zN); exact dn) | ((with_reducible apply zA); exact da) | ((with_reducible apply zS); (first | exact st8 (new := [_, _, _]) | exact ds)) | ((with_reducible apply zY); exact rfl; exact rfl; exact tf) | ((with_reducible apply zG); exact rfl; exact rfl; exact tf) | ((with_reducible apply zU); exact rfl; exact rfl) | ((with_reducible apply zD); exact rfl; exact rfl) | ((with_reducible apply zB); exact rfl; exact rfl)))
    ((with_reducible first | apply q_retR | apply q_retN); exact rl)
    rfl

/-! Equal rolls. -/
theorem part_one {P : Program} {t : TypeId} (h : tyOf P t = some (false, 1)) {cs : Array Value} {off : Nat} {v : Value} (hv : cs[off]? = some v) (w : World) : (part t cs off).run P w = .ok v w := by
  obtain ⟨h1, _⟩ := tyOf_runs h w
  simp only [part, Sem.run_bind, h1, Result.andThen_ok, Bool.false_eq_true, if_false]
  rw [hv]; rfl
theorem drum_fields : (Tryz.prog.fieldsOf 23).toList.map (fun f => (f.name == "_", f.type, f.offset)) = [(false, 9, 0), (false, 3, 1), (false, 3, 2)] := by kernel_rfl
theorem eqF_cons {P : Program} (d : Nat) {xs ys : Array Value} {f : Field} {fs : List Field} {u v : Value} {r : Bool} (w : World) (hn : (f.name == "_") = false) (ht : tyOf P f.type = some (false, 1)) (hx : xs[f.offset]? = some u) (hy : ys[f.offset]? = some v) (he : (Op.equalIn d f.type u v).run P w = .ok r w) :
    (Op.eqFields d xs ys (f :: fs)).run P w = if r = true then (Op.eqFields d xs ys fs).run P w else .ok false w := by
  have hne : f.name ≠ "_" := by simpa using hn
  simp only [Op.eqFields, hne, ne_eq, not_false_eq_true, if_true, Sem.run_bind, part_one ht hx w, part_one ht hy w, he, Result.andThen_ok]
  cases r
  · rfl
  · rfl
theorem drumR_eq {n m : List UInt8} {p o q r : Int} (w : World) : (Op.equalIn 10000 23 (.agg #[.string ⟨n.toArray⟩, .int .i64 p, .int .i64 o]) (.agg #[.string ⟨m.toArray⟩, .int .i64 q, .int .i64 r])).run Tryz.prog w = .ok (decide (n = m) && (decide (p = q) && decide (o = r))) w := by
  have hu : Tryz.prog.underlying 23 = some (.struct (Tryz.prog.fieldsOf 23)) := by kernel_rfl
  have hp : Tryz.prog.stoodInHeld 23 = false := by kernel_rfl
  rw [run_equalIn_struct w 9999 _ _ _ hu hp]
  have hf := drum_fields
  have ts : tyOf Tryz.prog 9 = some (false, 1) := TyI.eq
  have ti : tyOf Tryz.prog 3 = some (false, 1) := TyI.eq
  generalize (Tryz.prog.fieldsOf 23).toList = fs at *
  obtain ⟨f0, f1, f2, rfl⟩ : ∃ a b c, fs = [a, b, c] := by
    have hl := congrArg List.length hf
    rw [List.length_map] at hl
    match fs, hl with
    | [a, b, c], _ => exact ⟨a, b, c, rfl⟩
  · simp only [List.map_cons, List.map_nil, List.cons.injEq, Prod.mk.injEq, and_true] at hf
    obtain ⟨⟨a1, a2, a3⟩, ⟨b1, b2, b3⟩, ⟨c1, c2, c3⟩⟩ := hf
    have e1 : (Op.equalIn 9999 f0.type (.string ⟨n.toArray⟩) (.string ⟨m.toArray⟩)).run Tryz.prog w = .ok (decide (n = m)) w := by
      rw [a2, run_equalIn_string w 9998 _ _ _ Tryz.underlying9, ByteArray.toList_mk, ByteArray.toList_mk]
      congr 1
      rw [Bool.eq_iff_iff]; simp
    have e2 : (Op.equalIn 9999 f1.type (.int .i64 p) (.int .i64 q)).run Tryz.prog w = .ok (decide (p = q)) w := by
      rw [b2, run_equalIn_int w 9998 _ .i64 .i64 p q Tryz.underlying3]
      rfl
    have e3 : (Op.equalIn 9999 f2.type (.int .i64 o) (.int .i64 r)).run Tryz.prog w = .ok (decide (o = r)) w := by
      rw [c2, run_equalIn_int w 9998 _ .i64 .i64 o r Tryz.underlying3]
      rfl
    rw [eqF_cons 9999 w a1 (by rw [a2]; exact ts) (by rw [a3]; rfl) (by rw [a3]; rfl) e1, eqF_cons 9999 w b1 (by rw [b2]; exact ti) (by rw [b3]; rfl) (by rw [b3]; rfl) e2, eqF_cons 9999 w c1 (by rw [c2]; exact ti) (by rw [c3]; rfl) (by rw [c3]; rfl) e3]
    cases decide (n = m)
    · rfl
    · cases decide (p = q)
      · rfl
      · cases decide (o = r) <;> rfl
theorem rep_dT {ok : Nat → Prop} {w : World} {n : List UInt8} {p o : Int} {v : Value} (h : (dT n p o).rep ok w v) : v = .agg #[.string ⟨n.toArray⟩, .int .i64 p, .int .i64 o] := by
  rw [DV.rep] at h
  obtain ⟨vs, rfl, _, h⟩ := h
  have := repL_vals_eq (us := [.string ⟨n.toArray⟩, .int .i64 p, .int .i64 o]) h
  rw [this]
section
variable {s : AS} {dst : Option Tmp} {ty : TypeId} {ps : String} {af : Array Edge} {t' : TypeId} {x y : Operand} {n m : List UInt8} {p o q r : Int}
theorem o_eqlDr (hx : s.ev x = .d (dT n p o)) (hy : s.ev y = .d (dT m q r)) (gd : Option (Nat × Bool)) : Does Tryz.prog ⟨dst, .binOp .eql 23 x y t', ty, ps, af, gd⟩ s [] (.put (.d (B (decide (n = m) && (decide (p = q) && decide (o = r)))))) :=
  does_pure fun c s' φ a w hR hop => by
    have h1 := rep_dT (ge_d hR (hop x (by simp [Op.operands])) hx)
    have h2 := rep_dT (ge_d hR (hop y (by simp [Op.operands])) hy)
    refine ⟨.bool (decide (n = m) && (decide (p = q) && decide (o = r))), ?_, (rep_val (ok := okOf c φ s') (w := w)).2 rfl⟩
    have e1 := run_eqGuard_agg (P := Tryz.prog) w .eql 23 x y #[.string ⟨n.toArray⟩, .int .i64 p, .int .i64 o] #[.string ⟨m.toArray⟩, .int .i64 q, .int .i64 r] (by kernel_rfl)
    have e2 := run_eql_struct (P := Tryz.prog) w 23 #[.string ⟨n.toArray⟩, .int .i64 p, .int .i64 o] #[.string ⟨m.toArray⟩, .int .i64 q, .int .i64 r]
    simp only [execOp, h1, h2, Sem.run_bind, e1, e2, drumR_eq, Sem.run_pure, Result.andThen_ok]
theorem o_neqDr (hx : s.ev x = .d (dT n p o)) (hy : s.ev y = .d (dT m q r)) (gd : Option (Nat × Bool)) : Does Tryz.prog ⟨dst, .binOp .neq 23 x y t', ty, ps, af, gd⟩ s [] (.put (.d (B (!(decide (n = m) && (decide (p = q) && decide (o = r))))))) :=
  does_pure fun c s' φ a w hR hop => by
    have h1 := rep_dT (ge_d hR (hop x (by simp [Op.operands])) hx)
    have h2 := rep_dT (ge_d hR (hop y (by simp [Op.operands])) hy)
    refine ⟨.bool (!(decide (n = m) && (decide (p = q) && decide (o = r)))), ?_, (rep_val (ok := okOf c φ s') (w := w)).2 rfl⟩
    have e1 := run_eqGuard_agg (P := Tryz.prog) w .neq 23 x y #[.string ⟨n.toArray⟩, .int .i64 p, .int .i64 o] #[.string ⟨m.toArray⟩, .int .i64 q, .int .i64 r] (by kernel_rfl)
    have e2 := run_neq_struct (P := Tryz.prog) w 23 #[.string ⟨n.toArray⟩, .int .i64 p, .int .i64 o] #[.string ⟨m.toArray⟩, .int .i64 q, .int .i64 r]
    simp only [execOp, h1, h2, Sem.run_bind, e1, e2, drumR_eq, Sem.run_pure, Result.andThen_ok]
end

/-! Back and forth. -/
theorem anyBad_no {n : List UInt8} : ∀ (k : Nat), anyBad n k = false → ∀ x ∈ n, x ≠ 32 := by
  induction n with
  | nil => intro k _ x hx; simp at hx
  | cons c n ih =>
    intro k h x hx
    have h : (badAt k c.toNat || anyBad n (k + 1)) = false := h
    rw [Bool.or_eq_false_iff] at h
    rcases List.mem_cons.1 hx with rfl | hx
    · rintro rfl
      have h1 := h.1
      unfold badAt at h1
      have e : ((32 : UInt8).toNat : Int) = 32 := rfl
      rw [e] at h1
      have := of_decide_eq_false h1
      omega
    · exact ih (k + 1) h.2 x hx
theorem dl_lt : ∀ (k u : Nat), u < 10 ^ k → (dl u).length ≤ k
  | 0, u, hu => by
    obtain rfl : u = 0 := by omega
    rw [dl_zero]; exact Nat.le_refl _
  | k + 1, u, hu => by
    by_cases h0 : u = 0
    · subst h0; rw [dl_zero]; exact Nat.zero_le _
    · rw [dl_pos (by omega), List.length_append, List.length_singleton]
      have := dl_lt k (u / 10) (by rw [Nat.pow_succ] at hu; omega)
      omega
theorem itoa_short {v : Int} (h0 : 0 ≤ v) (h1 : v < 100) : (Lib.itoa v).length ≤ 4 ∧ ∀ x ∈ Lib.itoa v, x ≠ 32 := by
  refine ⟨?_, fun x hx e => ?_⟩
  · by_cases hv : v = 0
    · subst hv; rw [itoa_zero]; decide
    · rw [itoa_pos (by omega)]
      have := dl_lt 2 v.toNat (by omega)
      omega
  · rcases itoa_byte x hx with h | h
    · subst e; exact absurd h (by decide)
    · subst e; exact absurd h (by decide)
theorem prs_fmt {n : List UInt8} {p o : Int} (h : drumErr ⟨n.toArray⟩ p o = 0) : prsD (fmtD n p o) = ((n, p, o), 0) := by
  obtain ⟨⟨d1, d2, d3, d4⟩, hn, _⟩ := drum_ok h
  unfold nameOk at hn
  rw [Bool.and_eq_true, T8_list, T8_size] at hn
  have hb := anyBad_no 0 (by simpa using hn.1)
  have hl := inR_true.1 hn.2
  obtain ⟨p1, p2⟩ := itoa_short (v := p) (by omega) (by omega)
  obtain ⟨o1, o2⟩ := itoa_short (v := o) (by omega) (by omega)
  have hc : cutA 32 [] (fmtD n p o) = [n, Lib.itoa p, Lib.itoa o] := by
    unfold fmtD
    rw [cutA_piece _ _ _ hb, cutA_piece _ _ _ p2, cutA_last _ _ o2]; rfl
  rw [prsD_three hc, natN_of (by omega) p1, natN_of (by omega) o1]
  have he : n.isEmpty = false := by
    cases n with
    | nil => simp at hl
    | cons x n => rfl
  rw [he]
  show (bif drumErr ⟨n.toArray⟩ p o == 0 then ((n, p, o), 0) else (([], 0, 0), drumErr ⟨n.toArray⟩ p o)) = _
  rw [h]; rfl

end Go.Proofs.YtocnbbjcfgfgdaaGreatDoor
