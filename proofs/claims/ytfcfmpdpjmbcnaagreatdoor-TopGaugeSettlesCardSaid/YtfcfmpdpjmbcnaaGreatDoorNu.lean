/- Strings: operations on them, as lists of bytes. Nothing of the program. -/
import Derived.Test.YtfcfmpdpjmbcnaaGreatDoorM9
import Derived.Laws.Concat
import Derived.Laws.IdiomStrings
import Derived.Lib.AtoiAll
import Derived.Lib.ItoaNum
import Derived.Lib.SplitLaws
import Derived.Test.YtfcfmpdpjmbcnaaGreatDoorSf
import Derived.Lib.AtoiErrMem
set_option linter.unusedVariables false
set_option linter.unusedSimpArgs false
namespace Go.Proofs.YtfcfmpdpjmbcnaaGreatDoor
open Go.RowKit
set_option maxRecDepth 20000

abbrev T8 (l : List UInt8) : DV := .val (.string ⟨l.toArray⟩)
section
variable {P : Program} {s : AS} {dst : Option Tmp} {ty : TypeId} {ps : String} {af : Array Edge} {t t' : TypeId} {x y : Operand}
theorem o_addT {a b : List UInt8} (hx : s.ev x = .d (T8 a)) (hy : s.ev y = .d (T8 b)) (ha : a.length ≤ 8388608) (hb : b.length ≤ 8388608) (gd : Option (Nat × Bool)) : Does P ⟨dst, .binOp .add t x y t', ty, ps, af, gd⟩ s [] (.put (.d (T8 (a ++ b)))) :=
  does_bin hx hy fun w => by
    have e1 : (eqGuard .add t x y (.string ⟨a.toArray⟩) (.string ⟨b.toArray⟩)).run P w = .ok () w := by unfold eqGuard; rfl
    rw [Sem.run_bind, e1, Result.andThen_ok, binOp_string_add]
    exact run_string_add_lists w a b (by omega) (by omega)
theorem o_eqlT {a b : List UInt8} (hx : s.ev x = .d (T8 a)) (hy : s.ev y = .d (T8 b)) (gd : Option (Nat × Bool)) : Does P ⟨dst, .binOp .eql t x y t', ty, ps, af, gd⟩ s [] (.put (.d (B (decide (a = b))))) :=
  does_bin hx hy fun w => by
    have e1 : (eqGuard .eql t x y (.string ⟨a.toArray⟩) (.string ⟨b.toArray⟩)).run P w = .ok () w := by unfold eqGuard; rfl
    have e2 : (a == b) = decide (a = b) := by rw [Bool.eq_iff_iff]; simp
    rw [Sem.run_bind, e1, Result.andThen_ok, binOp_string_eql, ByteArray.toList_mk, ByteArray.toList_mk, e2]
    rfl
theorem o_lenT8 {a : List UInt8} [ht : UndI P t .string] (hx : s.ev x = .d (T8 a)) (gd : Option (Nat × Bool)) : Does P ⟨dst, .call ⟨.builtin .len, #[x], #[t]⟩, ty, ps, af, gd⟩ s [] (.put (.d (I a.length))) := by
  have h := o_lenT (P := P) (s := s) (dst := dst) (ty := ty) (ps := ps) (af := af) (t := t) hx gd
  have e : (ByteArray.mk a.toArray).size = a.length := List.size_toArray
  rw [e] at h
  exact h
theorem o_sliceTL {a : List UInt8} {i : Nat} {k : IntKind} {lo : Operand} [ht : UndI P t .string] (hx : s.ev x = .d (T8 a)) (hl : s.ev lo = .d (.val (.int k (i : Int)))) (h1 : i ≤ a.length) (gd : Option (Nat × Bool)) :
    Does P ⟨dst, .slice t x (some lo) none none, ty, ps, af, gd⟩ s [] (.put (.d (T8 (a.drop i)))) :=
  does_pure fun c s' φ a' w hR hop => by
    have e1 := ge_val hR (hop x (by simp [Op.operands])) hx
    have e2 := ge_val hR (hop lo (by simp [Op.operands])) hl
    have hz : (ByteArray.mk a.toArray).size = a.length := List.size_toArray
    have he : (a.drop i).take (a.length - i) = a.drop i := List.take_of_length_le (by rw [List.length_drop]; exact Nat.le_refl _)
    refine ⟨_, ?_, (rep_val (ok := okOf c φ s') (w := w)).2 rfl⟩
    simp only [execOp, e1, e2, Option.map_some, Option.map_none, run_sliceAt_string (P := P) w t _ _ _ _ ht.eq, Sem.run_bind]
    rw [run_slice_string_l w t _ ht.eq k (i : Int) (by omega) (by rw [hz]; omega), hz, ByteArray.extract_mk, Int.toNat_natCast, he]
    rfl
theorem o_sliceTH {a : List UInt8} {j : Nat} {k : IntKind} {hi : Operand} [ht : UndI P t .string] (hx : s.ev x = .d (T8 a)) (hh : s.ev hi = .d (.val (.int k (j : Int)))) (h2 : j ≤ a.length) (gd : Option (Nat × Bool)) :
    Does P ⟨dst, .slice t x none (some hi) none, ty, ps, af, gd⟩ s [] (.put (.d (T8 (a.take j)))) :=
  does_pure fun c s' φ a' w hR hop => by
    have e1 := ge_val hR (hop x (by simp [Op.operands])) hx
    have e3 := ge_val hR (hop hi (by simp [Op.operands])) hh
    have hz : (ByteArray.mk a.toArray).size = a.length := List.size_toArray
    refine ⟨_, ?_, (rep_val (ok := okOf c φ s') (w := w)).2 rfl⟩
    simp only [execOp, e1, e3, Option.map_some, Option.map_none, run_sliceAt_string (P := P) w t _ _ _ _ ht.eq, Sem.run_bind]
    rw [run_slice_string_h w t _ ht.eq k (j : Int) (by omega) (by rw [hz]; omega), ByteArray.extract_mk, Int.toNat_natCast, List.drop_zero, Nat.sub_zero]
    rfl
end

end Go.Proofs.YtfcfmpdpjmbcnaaGreatDoor
/- Calls whose result is told for some value alone (an error in a new block). Nothing of the program. -/
set_option linter.unusedVariables false
set_option linter.unusedSimpArgs false
namespace Go.Proofs.YtfcfmpdpjmbcnaaGreatDoor
open Go.RowKit
set_option maxRecDepth 20000

def ACe (P : Program) (f : FuncId) (args : List DV) {α : Type} (r : α → DV) : Prop :=
  ∀ (ok : Nat → Prop) (w : World) (vs : List Value), DV.repL ok w args vs → ∀ [GlobI w], Calls P f vs.toArray w fun e w' => ∃ x v, e = .returned v ∧ (r x).rep (fun b => ok b ∨ w.heap.size ≤ b) w' v ∧ Below w.heap.size w w'
theorem wpl_callE {P : Program} {ops : Array Oper} {c : Fam} {l : List Oper} {Q : Exit → AS → Prop} {s : AS} {d : Nat} {f : FuncId} {args : Array Operand} {ats : Array TypeId} {ty : TypeId} {ps : String} {af : Array Edge} {dvs : List DV} {α : Type} {r : α → DV} [he : EntI P f]
    (hv : viewL s args.toList = some (dvs, [])) (hA : ACe P f dvs r) (hd : dstsB c.nt [(⟨some d, .call ⟨.value (.func f), args, ats⟩, ty, ps, af, none⟩ : Oper)] = true)
    (h : ∀ x, WpL P ops c l Q ⟨upd s.fr d (.d (r x)), s.mem⟩) : WpL P ops c (⟨some d, .call ⟨.value (.func f), args, ats⟩, ty, ps, af, none⟩ :: l) Q s := ⟨fun pre hp φ a w ⟨c', hG, hR⟩ => by
  have hok := dstsB_spec (c := c') _ (by rw [(c.eq _ hG).1]; exact hd) _ (List.mem_singleton.2 rfl)
  have hi : ops[pre.length]? = some ⟨some d, .call ⟨.value (.func f), args, ats⟩, ty, ps, af, none⟩ := by
    rw [← Array.getElem?_toList, hp, List.getElem?_append_right (Nat.le_refl _), Nat.sub_self]; rfl
  rw [List.length_cons, List.range'_succ, wpOpsIn_cons]
  unfold Go.wpOpIn
  simp only [hi]
  rw [if_pos (by simp [Region.wanted]), ← (c.eq _ hG).2]
  refine op_in hok.2 ?_
  unfold Oper.wp
  rw [run_callFn he.eq]
  haveI : GlobI w := ⟨hR.below.glob⟩
  show Calls P f (args.map a.eval) w _
  have hargs : args.map a.eval = (args.toList.map a.eval).toArray := by rw [← Array.toList_map, Array.toArray_toList]
  rw [hargs]
  refine (hA (fun b => okOf c' φ s b ∧ b < w.heap.size) w _ (viewL_rep hR args.toList dvs [] (fun _ _ => ge_refl _) hv (fun _ _ => rfl) (fun b h1 h2 => ⟨h1, h2⟩) (fun h => absurd rfl h))).mono ?_
  rintro _ w' ⟨x, v, rfl, hr, hb⟩
  have hR' := hR.below' hb
  have hR2 := hR'.put (dst := some d) hok.1 (r := .d (r x)) (v := v) (DV.rep_keeps (Keeps.wide fun b hb1 _ => by
    rcases hb1 with hb1 | hb1
    · exact hb1.1
    · refine .inr ⟨.inl (Nat.le_trans hR.below.size hb1), fun nm hnm => ?_⟩
      have := hR.lt hnm
      omega) (r x) v hr)
  have := (h x).run (pre ++ [⟨some d, .call ⟨.value (.func f), args, ats⟩, ty, ps, af, none⟩]) (by rw [hp]; simp) _ _ _ ⟨c', hG, hR2⟩
  rw [← (c.eq _ hG).2] at this
  simpa using this⟩
section
variable {P : Program} {s : AS} {dst : Option Tmp} {ty : TypeId} {ps : String} {af : Array Edge} {t t' : TypeId} {x y : Operand}
theorem run_eqE {ms : Array (String × TypeId)} (ht : P.underlying t = some (.interface ms)) (w : World) (e : TypeId) (v : Value) : (Op.equal t (.iface e v) .nilIface).run P w = .ok false w := by
  have h : ∀ d : Nat, (Op.equalIn (d + 1) t (.iface e v) .nilIface).run P w = .ok false w := fun d => by simp [Op.equalIn, run_underlying ht]
  simp only [Op.equal, Op.maxDepth]
  exact h 9999
theorem run_eqE0 {ms : Array (String × TypeId)} (ht : P.underlying t = some (.interface ms)) (w : World) : (Op.equal t .nilIface .nilIface).run P w = .ok true w := by
  have h : ∀ d : Nat, (Op.equalIn (d + 1) t .nilIface .nilIface).run P w = .ok true w := fun d => by simp [Op.equalIn, run_underlying ht]
  simp only [Op.equal, Op.maxDepth]
  exact h 9999
theorem o_eqlE {ms : Array (String × TypeId)} {e : TypeId} {v : Value} (ht : P.underlying t = some (.interface ms)) (hx : s.ev x = .d (.val (.iface e v))) (gd : Option (Nat × Bool)) : Does P ⟨dst, .binOp .eql t x (.const .nilIface) t', ty, ps, af, gd⟩ s [] (.put (.d (B false))) :=
  does_bin hx rfl fun w => by
    rw [Sem.run_bind, eqGuard_at_iface, Sem.run_pure, Result.andThen_ok]
    show (do pure (Value.bool (← Op.equal t (.iface e v) .nilIface))).run P w = _
    rw [Sem.run_bind, run_eqE ht, Result.andThen_ok]; rfl
theorem o_eqlE0 {ms : Array (String × TypeId)} (ht : P.underlying t = some (.interface ms)) (hx : s.ev x = .d (.val .nilIface)) (gd : Option (Nat × Bool)) : Does P ⟨dst, .binOp .eql t x (.const .nilIface) t', ty, ps, af, gd⟩ s [] (.put (.d (B true))) :=
  does_bin hx rfl fun w => by
    rw [Sem.run_bind, eqGuard_nil_constR, Sem.run_pure, Result.andThen_ok]
    show (do pure (Value.bool (← Op.equal t .nilIface .nilIface))).run P w = _
    rw [Sem.run_bind, run_eqE0 ht, Result.andThen_ok]; rfl
end

end Go.Proofs.YtfcfmpdpjmbcnaaGreatDoor
/- Numerals, and strings cut at a byte. Nothing of the program. -/
set_option linter.unusedVariables false
set_option linter.unusedSimpArgs false
namespace Go.Proofs.YtfcfmpdpjmbcnaaGreatDoor
open Go.RowKit
set_option maxRecDepth 20000

def digB (u : UInt8) : Bool := decide (48 ≤ u.toNat) && decide (u.toNat ≤ 57)
theorem digB_iff {u : UInt8} : digB u = true ↔ 48 ≤ u.toNat ∧ u.toNat ≤ 57 := by simp [digB]
def valD (n : Nat) : List UInt8 → Nat
  | [] => n
  | u :: l => valD (10 * n + (u.toNat - 48)) l
theorem valD_append : ∀ (l r : List UInt8) (n : Nat), valD n (l ++ r) = valD (valD n l) r
  | [], _, _ => rfl
  | u :: l, r, n => valD_append l r _
theorem valD_ge : ∀ (l : List UInt8) (n : Nat), n ≤ valD n l
  | [], _ => Nat.le_refl _
  | u :: l, n => Nat.le_trans (by omega) (valD_ge l (10 * n + (u.toNat - 48)))
theorem valD_lt (l : List UInt8) : ∀ (n : Nat), (∀ x ∈ l, digB x = true) → valD n l < (n + 1) * 10 ^ l.length := by
  induction l with
  | nil =>
    intro n _
    rw [List.length_nil, Nat.pow_zero, Nat.mul_one]
    exact Nat.lt_succ_self n
  | cons u l ih =>
    intro n h
    have h1 := ih (10 * n + (u.toNat - 48)) fun x hx => h x (by simp [hx])
    have h2 := digB_iff.1 (h u (by simp))
    have h3 : 10 * n + (u.toNat - 48) + 1 ≤ 10 * (n + 1) := by omega
    rw [List.length_cons, Nat.pow_succ, Nat.mul_comm (10 ^ l.length) 10, ← Nat.mul_assoc, Nat.mul_comm (n + 1) 10]
    exact Nat.lt_of_lt_of_le h1 (Nat.mul_le_mul_right _ h3)
def dl (u : Nat) : List UInt8 := if h : u = 0 then [] else dl (u / 10) ++ [UInt8.ofNat (48 + u % 10)]
termination_by u
decreasing_by omega
theorem dl_zero : dl 0 = [] := by rw [dl, dif_pos rfl]
theorem dl_pos {u : Nat} (h : 0 < u) : dl u = dl (u / 10) ++ [UInt8.ofNat (48 + u % 10)] := by rw [dl, dif_neg (by omega)]
theorem dig_of {d : Nat} (h : d < 10) : (UInt8.ofNat (48 + d)).toNat = 48 + d := by
  rw [UInt8.toNat_ofNat']
  exact Nat.mod_eq_of_lt (by omega)
theorem dl_val (u : Nat) : valD 0 (dl u) = u := by
  induction u using Nat.strongRecOn with
  | ind u ih =>
    by_cases h : u = 0
    · subst h; rw [dl_zero]; rfl
    · rw [dl_pos (by omega), valD_append, ih (u / 10) (by omega)]
      show 10 * (u / 10) + ((UInt8.ofNat (48 + u % 10)).toNat - 48) = u
      rw [dig_of (by omega)]; omega
theorem dl_dig (u : Nat) : ∀ x ∈ dl u, digB x = true := by
  induction u using Nat.strongRecOn with
  | ind u ih =>
    intro x hx
    by_cases h : u = 0
    · subst h; rw [dl_zero] at hx; simp at hx
    · rw [dl_pos (by omega)] at hx
      rcases List.mem_append.1 hx with hx | hx
      · exact ih (u / 10) (by omega) x hx
      · rw [List.mem_singleton.1 hx, digB_iff, dig_of (by omega)]; omega
theorem dl_head (u : Nat) : 0 < u → ∃ x l, dl u = x :: l ∧ x.toNat ≠ 48 := by
  induction u using Nat.strongRecOn with
  | ind u ih =>
    intro h
    rw [dl_pos h]
    by_cases h1 : u / 10 = 0
    · rw [h1, dl_zero]
      exact ⟨_, [], rfl, by rw [dig_of (by omega)]; omega⟩
    · obtain ⟨x, l, e, hx⟩ := ih (u / 10) (by omega) (by omega)
      exact ⟨x, l ++ [UInt8.ofNat (48 + u % 10)], by rw [e]; rfl, hx⟩
theorem decDigits_dl (u : Nat) : 0 < u → Lib.decDigits u = dl u := by
  induction u using Nat.strongRecOn with
  | ind u ih =>
    intro h
    rw [Lib.decDigits, dl_pos h]
    by_cases h1 : u < 10
    · rw [dif_pos h1, show u / 10 = 0 by omega, dl_zero, show u % 10 = u by omega]; rfl
    · rw [dif_neg h1, ih (u / 10) (by omega) (by omega)]
theorem u8_ext {a b : UInt8} (h : a.toNat = b.toNat) : a = b := UInt8.toNat_inj.1 h
theorem dl_valD : ∀ (n : Nat) (ds : List UInt8), ds.length = n → (∀ x ∈ ds, digB x = true) → (∀ x l, ds = x :: l → x.toNat ≠ 48) → dl (valD 0 ds) = ds := by
  intro n
  induction n with
  | zero => intro ds hl _ _; rw [List.length_eq_zero_iff.1 hl]; exact dl_zero
  | succ n ih =>
    intro ds hl hd hh
    rcases List.eq_nil_or_concat ds with rfl | ⟨L, b, e⟩
    · simp at hl
    rw [List.concat_eq_append] at e
    subst e
    have hb := digB_iff.1 (hd b (by simp))
    have hL := ih L (by simpa using hl) (fun x hx => hd x (by simp [hx])) fun x l e => hh x (l ++ [b]) (by rw [e]; rfl)
    rw [valD_append]
    show dl (10 * valD 0 L + (b.toNat - 48)) = L ++ [b]
    generalize valD 0 L = a at hL
    have hpos : 0 < 10 * a + (b.toNat - 48) := by
      refine Nat.pos_of_ne_zero fun e => ?_
      obtain rfl : a = 0 := by omega
      rw [dl_zero] at hL
      subst hL
      exact hh b [] rfl (by omega)
    rw [dl_pos hpos, show (10 * a + (b.toNat - 48)) / 10 = a by omega, hL]
    congr 2
    refine u8_ext ?_
    rw [dig_of (by omega)]; omega
theorem parse_val : ∀ (l : List UInt8) (n : Nat), (∀ x ∈ l, digB x = true) → valD n l < 18446744073709551616 → Lib.parseUint10 n l = .ok (valD n l)
  | [], n, _, _ => rfl
  | c :: r, n, h, hv => by
    have hc := digB_iff.1 (h c (by simp))
    have hv : valD (10 * n + (c.toNat - 48)) r < 18446744073709551616 := hv
    have h1 := valD_ge r (10 * n + (c.toNat - 48))
    unfold Lib.parseUint10
    rw [if_pos hc, if_neg (by omega), if_neg (by omega), Nat.mul_comm n 10]
    exact parse_val r _ (fun x hx => h x (by simp [hx])) hv
theorem itoa_zero : Lib.itoa 0 = [48] := by unfold Lib.itoa; rw [if_neg (by decide), Lib.decDigits, dif_pos (by decide)]; rfl
theorem itoa_pos {v : Int} (h : 0 < v) : Lib.itoa v = dl v.toNat := by unfold Lib.itoa; rw [if_neg (by omega), decDigits_dl _ (by omega)]
theorem itoa_neg {v : Int} (h : v < 0) : Lib.itoa v = 45 :: dl v.natAbs := by unfold Lib.itoa; rw [if_pos h, decDigits_dl _ (by omega)]
theorem atoi_itoa {v : Int} (h : I64 v) : Lib.atoiAll (Lib.itoa v) = .ok v := by
  obtain ⟨h1, h2⟩ := h
  rcases Int.lt_trichotomy v 0 with hv | hv | hv
  · rw [itoa_neg hv]
    obtain ⟨x, l, e, _⟩ := dl_head v.natAbs (by omega)
    have hp := parse_val (dl v.natAbs) 0 (dl_dig _) (by rw [dl_val]; omega)
    rw [dl_val] at hp
    have hm : Lib.parseMag (dl v.natAbs) = .ok v.natAbs := by unfold Lib.parseMag; rw [if_neg (by rw [e]; simp), hp]
    unfold Lib.atoiAll
    have e45 : (45 : UInt8).toNat = 45 := rfl
    simp only [e45]
    rw [if_pos (by decide), hm]
    simp only
    rw [if_neg (by simp), if_neg (by simp; omega), if_pos trivial]
    congr 1; omega
  · subst hv; rw [itoa_zero]; rfl
  · rw [itoa_pos hv]
    obtain ⟨x, l, e, _⟩ := dl_head v.toNat (by omega)
    have hx := digB_iff.1 (dl_dig v.toNat x (by rw [e]; simp))
    have hp := parse_val (dl v.toNat) 0 (dl_dig _) (by rw [dl_val]; omega)
    rw [dl_val] at hp
    have hm : Lib.parseMag (dl v.toNat) = .ok v.toNat := by unfold Lib.parseMag; rw [if_neg (by rw [e]; simp), hp]
    rw [e] at hm ⊢
    unfold Lib.atoiAll
    simp only
    rw [if_neg (by omega), hm]
    simp only
    have hne : ¬ x.toNat = 45 := by omega
    rw [if_neg (by simp [hne]; omega), if_neg (by simp [hne]), if_neg hne]
    congr 1; omega

def numN (l : List UInt8) (D : Nat) : Option Int :=
  if l.head? = some 45 then
    (if l.length = 1 ∨ D < l.length - 1 ∨ l[1]? = some 48 then none else if (l.drop 1).all digB then some (-(valD 0 (l.drop 1) : Int)) else none)
  else (if l.length = 0 ∨ D < l.length ∨ (l[0]? = some 48 ∧ 1 < l.length) then none else if l.all digB then some (valD 0 l : Int) else none)
def trimL (l : List UInt8) : List UInt8 := if l.head? = some 45 then l.drop 1 else l
theorem ne48 {x : UInt8} (h : x ≠ 48) : x.toNat ≠ 48 := fun e => h (u8_ext e)
theorem numN_itoa {l : List UInt8} {D : Nat} {v : Int} (hD : D ≤ 18) (h : numN l D = some v) : I64 v ∧ Lib.itoa v = l ∧ (trimL l).length ≤ D := by
  have hp : 10 ^ D ≤ 10 ^ 18 := Nat.pow_le_pow_right (by decide) hD
  have hp2 : (10 : Nat) ^ 18 = 1000000000000000000 := rfl
  unfold numN at h
  by_cases h1 : l.head? = some 45
  · rw [if_pos h1] at h
    unfold trimL
    rw [if_pos h1]
    obtain ⟨r, rfl⟩ : ∃ r, l = 45 :: r := by
      cases l with
      | nil => cases h1
      | cons c r => injection h1 with h1; exact ⟨r, by rw [h1]⟩
    simp only [List.length_cons, List.drop_succ_cons, List.drop_zero, List.getElem?_cons_succ] at h ⊢
    by_cases h2 : r.length + 1 = 1 ∨ D < r.length + 1 - 1 ∨ r[0]? = some 48
    · rw [if_pos h2] at h; cases h
    rw [if_neg h2] at h
    by_cases h3 : r.all digB = true
    · rw [if_pos h3] at h
      injection h with h
      have hd := List.all_eq_true.1 h3
      obtain ⟨c, t, rfl⟩ : ∃ c t, r = c :: t := by
        cases r with
        | nil => exact absurd (.inl rfl) h2
        | cons c t => exact ⟨c, t, rfl⟩
      have hc : c ≠ 48 := fun e => h2 (.inr (.inr (by rw [e]; rfl)))
      have hdl := dl_valD _ (c :: t) rfl hd fun x l e => by cases e; exact ne48 hc
      have hlt := valD_lt (c :: t) 0 hd
      have hle : 10 ^ (c :: t).length ≤ 10 ^ D := Nat.pow_le_pow_right (by decide) (by omega)
      have hpos : 0 < valD 0 (c :: t) := Nat.pos_of_ne_zero fun e => by rw [e, dl_zero] at hdl; cases hdl
      generalize valD 0 (c :: t) = u at *
      subst h
      refine ⟨⟨by omega, by omega⟩, ?_, by omega⟩
      rw [itoa_neg (by omega), show (-(u : Int)).natAbs = u by omega, hdl]
    · rw [if_neg h3] at h; cases h
  · rw [if_neg h1] at h
    unfold trimL
    rw [if_neg h1]
    by_cases h2 : l.length = 0 ∨ D < l.length ∨ (l[0]? = some 48 ∧ 1 < l.length)
    · rw [if_pos h2] at h; cases h
    rw [if_neg h2] at h
    by_cases h3 : l.all digB = true
    · rw [if_pos h3] at h
      injection h with h
      have hd := List.all_eq_true.1 h3
      obtain ⟨c, t, rfl⟩ : ∃ c t, l = c :: t := by
        cases l with
        | nil => exact absurd (.inl rfl) h2
        | cons c t => exact ⟨c, t, rfl⟩
      have hlt := valD_lt (c :: t) 0 hd
      have hle : 10 ^ (c :: t).length ≤ 10 ^ D := Nat.pow_le_pow_right (by decide) (by omega)
      by_cases hc : c = 48
      · subst hc
        have ht : t = [] := by
          cases t with
          | nil => rfl
          | cons x t => exact absurd (.inr (.inr ⟨rfl, by simp⟩)) h2
        subst ht
        have h : ((0 : Nat) : Int) = v := h
        subst h
        exact ⟨⟨by decide, by decide⟩, itoa_zero, by omega⟩
      · have hdl := dl_valD _ (c :: t) rfl hd fun x l e => by cases e; exact ne48 hc
        have hpos : 0 < valD 0 (c :: t) := Nat.pos_of_ne_zero fun e => by rw [e, dl_zero] at hdl; cases hdl
        generalize valD 0 (c :: t) = u at *
        subst h
        refine ⟨⟨by omega, by omega⟩, ?_, by omega⟩
        rw [itoa_pos (by omega), Int.toNat_natCast, hdl]
    · rw [if_neg h3] at h; cases h
theorem numN_of {D : Nat} {v : Int} (h : (trimL (Lib.itoa v)).length ≤ D) : numN (Lib.itoa v) D = some v := by
  rcases Int.lt_trichotomy v 0 with hv | hv | hv
  · obtain ⟨x, l, e, hx⟩ := dl_head v.natAbs (by omega)
    have hd := dl_dig v.natAbs
    have hval := dl_val v.natAbs
    rw [itoa_neg hv] at h ⊢
    unfold trimL at h
    unfold numN
    rw [if_pos (show (45 :: dl v.natAbs).head? = some 45 from rfl)] at h ⊢
    have h : (dl v.natAbs).length ≤ D := h
    simp only [List.length_cons, List.drop_succ_cons, List.drop_zero, List.getElem?_cons_succ]
    rw [e] at h hd hval ⊢
    have h2 : ¬ ((x :: l).length + 1 = 1 ∨ D < (x :: l).length + 1 - 1 ∨ (x :: l)[0]? = some 48) := by
      rintro (h3 | h3 | h3)
      · simp at h3
      · omega
      · injection h3 with h3; subst h3; exact hx rfl
    rw [if_neg h2, if_pos (List.all_eq_true.2 hd), hval]
    congr 1; omega
  · subst hv
    rw [itoa_zero] at h ⊢
    have h : 1 ≤ D := h
    unfold numN
    rw [if_neg (by decide), if_neg (by simp; omega), if_pos (by decide)]; rfl
  · obtain ⟨x, l, e, hx⟩ := dl_head v.toNat (by omega)
    have hd := dl_dig v.toNat
    have hval := dl_val v.toNat
    rw [itoa_pos hv] at h ⊢
    rw [e] at h hd hval ⊢
    have hx45 : ¬ (x :: l).head? = some 45 := fun e2 => by
      injection e2 with e2
      have := digB_iff.1 (hd x (by simp))
      rw [e2] at this
      exact absurd this.1 (by decide)
    unfold trimL at h
    unfold numN
    rw [if_neg hx45] at h ⊢
    have h2 : ¬ ((x :: l).length = 0 ∨ D < (x :: l).length ∨ ((x :: l)[0]? = some 48 ∧ 1 < (x :: l).length)) := by
      rintro (h3 | h3 | ⟨h3, _⟩)
      · simp at h3
      · omega
      · injection h3 with h3; subst h3; exact hx rfl
    rw [if_neg h2, if_pos (List.all_eq_true.2 hd), hval]
    congr 1; omega
theorem itoa_len {v : Int} (h : I64 v) : (Lib.itoa v).length ≤ 20 ∧ 1 ≤ (Lib.itoa v).length := by
  have key : ∀ (k u : Nat), u < 10 ^ k → (dl u).length ≤ k := fun k => by
    induction k with
    | zero => intro u hu; obtain rfl : u = 0 := by omega
              rw [dl_zero]; exact Nat.le_refl _
    | succ k ih =>
      intro u hu
      by_cases h0 : u = 0
      · subst h0; rw [dl_zero]; exact Nat.zero_le _
      · rw [dl_pos (by omega), List.length_append, List.length_singleton]
        have := ih (u / 10) (by rw [Nat.pow_succ] at hu; omega)
        omega
  have h19 : (10 : Nat) ^ 19 = 10000000000000000000 := rfl
  obtain ⟨h1, h2⟩ := h
  rcases Int.lt_trichotomy v 0 with hv | hv | hv
  · rw [itoa_neg hv, List.length_cons]
    have := key 19 v.natAbs (by omega)
    omega
  · subst hv; rw [itoa_zero]; decide
  · rw [itoa_pos hv]
    have := key 19 v.toNat (by omega)
    obtain ⟨x, l, e, _⟩ := dl_head v.toNat (by omega)
    rw [e] at this ⊢
    simp at this ⊢
    omega
theorem itoa_byte {v : Int} : ∀ x ∈ Lib.itoa v, digB x = true ∨ x = 45 := fun x hx => by
  rcases Int.lt_trichotomy v 0 with hv | hv | hv
  · rw [itoa_neg hv] at hx
    rcases List.mem_cons.1 hx with h | h
    · exact .inr h
    · exact .inl (dl_dig _ x h)
  · subst hv; rw [itoa_zero] at hx; rw [List.mem_singleton.1 hx]; exact .inl (by decide)
  · rw [itoa_pos hv] at hx; exact .inl (dl_dig _ x hx)

def cutA (c : UInt8) : List UInt8 → List UInt8 → List (List UInt8)
  | cur, [] => [cur]
  | cur, x :: l => bif x == c then cur :: cutA c [] l else cutA c (cur ++ [x]) l
theorem cutA_hit (c : UInt8) (cur l : List UInt8) : cutA c cur (c :: l) = cur :: cutA c [] l := by
  show (bif c == c then _ else _) = _
  rw [beq_self_eq_true]; rfl
theorem cutA_miss {c x : UInt8} (h : x ≠ c) (cur l : List UInt8) : cutA c cur (x :: l) = cutA c (cur ++ [x]) l := by
  show (bif x == c then _ else _) = _
  rw [beq_eq_false_iff_ne.2 h]; rfl
theorem idx_hit (c : UInt8) (l : List UInt8) : Lib.index (c :: l) [c] = 0 := by
  unfold Lib.index
  rw [if_pos (by simp)]
theorem idx_miss {c x : UInt8} (h : x ≠ c) (l : List UInt8) : Lib.index (x :: l) [c] = if Lib.index l [c] == -1 then -1 else Lib.index l [c] + 1 := by
  rw [Lib.index, if_neg (by simp [Ne.symm h])]
theorem cutA_idx (c : UInt8) : ∀ (l cur : List UInt8), (Lib.index l [c] = -1 ∧ cutA c cur l = [cur ++ l]) ∨ ∃ i : Nat, Lib.index l [c] = i ∧ i < l.length ∧ cutA c cur l = (cur ++ l.take i) :: cutA c [] (l.drop (i + 1))
  | [], cur => .inl ⟨rfl, by rw [List.append_nil]; rfl⟩
  | x :: l, cur => by
    by_cases hx : x = c
    · subst hx
      exact .inr ⟨0, idx_hit x l, by simp, by rw [cutA_hit, List.take_zero, List.append_nil]; rfl⟩
    · rw [idx_miss hx, cutA_miss hx]
      rcases cutA_idx c l (cur ++ [x]) with ⟨h1, h2⟩ | ⟨i, h1, h2, h3⟩
      · refine .inl ⟨by rw [h1]; rfl, ?_⟩
        rw [h2, List.append_assoc]; rfl
      · refine .inr ⟨i + 1, ?_, by simp; omega, ?_⟩
        · rw [h1, if_neg (fun e => by have := beq_iff_eq.1 e; omega)]; omega
        · rw [h3, List.append_assoc]; rfl
theorem cutA_len (c : UInt8) : ∀ (l cur : List UInt8), (cutA c cur l).length ≤ l.length + 1
  | [], _ => Nat.le_refl _
  | x :: l, cur => by
    by_cases hx : x = c
    · subst hx
      rw [cutA_hit, List.length_cons, List.length_cons]
      exact Nat.succ_le_succ (cutA_len x l [])
    · rw [cutA_miss hx, List.length_cons]
      exact Nat.le_succ_of_le (cutA_len c l _)
theorem cutA_mem (c : UInt8) : ∀ (l cur : List UInt8), ∀ p ∈ cutA c cur l, p.length ≤ cur.length + l.length
  | [], cur, p, h => by
    have h : p ∈ [cur] := h
    rw [List.mem_singleton.1 h]; exact Nat.le_refl _
  | x :: l, cur, p, h => by
    by_cases hx : x = c
    · subst hx
      rw [cutA_hit] at h
      rcases List.mem_cons.1 h with rfl | h
      · omega
      · have := cutA_mem x l [] p h
        simp at this ⊢; omega
    · rw [cutA_miss hx] at h
      have := cutA_mem c l _ p h
      simp at this ⊢; omega
theorem cutA_pos (c : UInt8) : ∀ (l cur : List UInt8), 0 < (cutA c cur l).length
  | [], _ => Nat.zero_lt_one
  | x :: l, cur => by
    by_cases hx : x = c
    · subst hx; rw [cutA_hit]; simp
    · rw [cutA_miss hx]; exact cutA_pos c l _
theorem cutA_piece {c : UInt8} : ∀ (p cur l : List UInt8), (∀ x ∈ p, x ≠ c) → cutA c cur (p ++ c :: l) = (cur ++ p) :: cutA c [] l
  | [], cur, l, _ => by rw [List.nil_append, cutA_hit, List.append_nil]
  | x :: p, cur, l, h => by
    rw [List.cons_append, cutA_miss (h x (by simp)), cutA_piece p _ l fun y hy => h y (by simp [hy]), List.append_assoc]; rfl
theorem cutA_last {c : UInt8} : ∀ (p cur : List UInt8), (∀ x ∈ p, x ≠ c) → cutA c cur p = [cur ++ p]
  | [], cur, _ => by rw [List.append_nil]; rfl
  | x :: p, cur, h => by
    rw [cutA_miss (h x (by simp)), cutA_last p _ fun y hy => h y (by simp [hy]), List.append_assoc]; rfl

end Go.Proofs.YtfcfmpdpjmbcnaaGreatDoor
/- Functions of the library on strings, as contracts on values. -/
set_option linter.unusedVariables false
set_option linter.unusedSimpArgs false
namespace Go.Proofs.YtfcfmpdpjmbcnaaGreatDoor
open Go.RowKit
set_option maxRecDepth 20000
set_option maxHeartbeats 4000000

theorem grow_below (w : World) (k : Nat) (os : Array Obj) : Below w.heap.size w (Sort.grow (w.drewN k) os) := by
  refine ⟨rfl, rfl, rfl, ?_, fun b hb => ?_⟩
  · show w.heap.size ≤ (w.heap ++ os).size
    simp
  · show (w.heap ++ os)[b]? = w.heap[b]?
    rw [Array.getElem?_append_left hb]
theorem T8_vals {ok : Nat → Prop} {w : World} {vs : List Value} {l : List UInt8} (h : DV.repL ok w [T8 l] vs) : vs = [.string ⟨l.toArray⟩] := repL_vals_eq (us := [.string ⟨l.toArray⟩]) h
theorem T8_list (l : List UInt8) : (ByteArray.mk l.toArray).data.toList = l := by simp
theorem T8_size (l : List UInt8) : (ByteArray.mk l.toArray).size = l.length := List.size_toArray
theorem itoa_A (n : Int) (hn : I64 n) : AC Tryz.prog 40 [I n] (T8 (Lib.itoa n)) := fun ok w vs hv hG => by
  have hv := repL_vals_eq (us := [.int .i64 n]) hv
  subst hv
  refine (Tryz.strconv_Itoa n hn.1 hn.2 w hG.is.tab).mono fun e w' ⟨he, k, os, hw⟩ => ⟨_, he, ?_, ?_⟩
  · exact (rep_val (ok := fun b => ok b ∨ w.heap.size ≤ b) (w := w')).2 rfl
  · rw [hw]; exact grow_below w k os
theorem atoi_A (l : List UInt8) (hl : l.length ≤ 1000000) (v : Int) (h : Lib.atoiAll l = .ok v) : AC Tryz.prog 96 [T8 l] (.tuple [I v, .val .nilIface]) := fun ok w vs hv hG => by
  have hv := T8_vals hv
  subst hv
  refine (Tryz.strconv_Atoi_ok ⟨l.toArray⟩ (by rw [T8_size]; omega) v (by rw [T8_list]; exact h) w).mono fun e w' ⟨he, hw⟩ => ⟨_, he, ?_, ?_⟩
  · rw [DV.rep]
    exact ⟨[.int .i64 v, .nilIface], rfl, repL_vals [.int .i64 v, .nilIface]⟩
  · rcases hw with rfl | ⟨t, rfl⟩
    · exact Below.refl _ _
    · exact Lib.bytesWorld_below _ _ _
theorem atoi_i64 {l : List UInt8} {v : Int} (h : Lib.atoiAll l = .ok v) : I64 v := Lib.atoiAll_bounds h
def errN (l : List UInt8) : Int := match Lib.atoiAll l with
  | .range => Lib.atoiSat l
  | _ => 0
theorem atoi_E (l : List UInt8) (hl : l.length ≤ 1000000) (h : ∀ v, Lib.atoiAll l ≠ .ok v) : ACe Tryz.prog 96 [T8 l] (fun x : TypeId × Value => .tuple [I (errN l), .val (.iface x.1 x.2)]) := fun ok w vs hv hG => by
  have hv := T8_vals hv
  subst hv
  have hcase : (Lib.atoiAll l = Lib.NumEnd.syntax ∧ errN l = 0) ∨ (Lib.atoiAll l = .range ∧ errN l = Lib.atoiSat l) := by
    unfold errN
    cases ha : Lib.atoiAll l with
    | ok v => exact absurd ha (h v)
    | range => exact .inr ⟨rfl, rfl⟩
    | _ => exact .inl ⟨rfl, rfl⟩
  rcases hcase with ⟨ha, e⟩ | ⟨ha, e⟩
  all_goals rw [e]
  · obtain ⟨tp, p, hs⟩ := hG.is.syn
    refine (Tryz.strconv_Atoi_syntax_var ⟨l.toArray⟩ (by rw [T8_size]; omega) (by rw [T8_list]; exact ha) tp p w hs).mono fun e w' ⟨N, he, _, _, hb⟩ => ⟨(198, .pointer (some ⟨N, 0, none⟩)), _, he, ?_, hb⟩
    rw [DV.rep]
    exact ⟨_, rfl, repL_vals [.int .i64 0, .iface _ _]⟩
  · obtain ⟨tp, p, hs⟩ := hG.is.rng
    have key := Tryz.strconv_Atoi_range_var ⟨l.toArray⟩ (by rw [T8_size]; omega) (by rw [T8_list]; exact ha) tp p w hs
    rw [T8_list] at key
    refine key.mono fun e w' ⟨N, he, _, _, hb⟩ => ⟨(198, .pointer (some ⟨N, 0, none⟩)), _, he, ?_, hb⟩
    rw [DV.rep]
    exact ⟨_, rfl, repL_vals [.int .i64 (Lib.atoiSat l), .iface _ _]⟩
abbrev tsl (ps : List (List UInt8)) : DV := .slice ps.length (ps.map T8)
theorem join_A (ps : List (List UInt8)) (sep : List UInt8) (hn : ps.length ≤ 1000000) (hl : (Lib.join ps sep).length ≤ 140737488355328) : AC Tryz.prog 41 [tsl ps, T8 sep] (T8 (Lib.join ps sep)) := fun ok w vs hv hG => by
  obtain ⟨u, us, rfl, h1, h2⟩ := repL_cons.1 hv
  obtain rfl := T8_vals h2
  rw [DV.rep] at h1
  obtain ⟨A, cap, rfl, hcap, hcm, h3⟩ := h1
  have hback : ∀ ps : List (List UInt8), ((ps.map fun p => ByteArray.mk p.toArray).map (·.data.toList)) = ps := fun ps => by
    rw [List.map_map]
    exact (List.map_congr_left fun p _ => T8_list p).trans (List.map_id _)
  rcases ps with _ | ⟨p0, ps⟩
  · refine (Tryz.strings_Join_none A cap ⟨sep.toArray⟩ w).mono fun e w' ⟨he, hw⟩ => ⟨_, he, ?_, hw ▸ Below.refl _ _⟩
    exact (rep_val (ok := fun b => ok b ∨ w.heap.size ≤ b) (w := w')).2 rfl
  · obtain ⟨b, o, vs, rfl, _, hlt, hc, _, hr⟩ := h3 (by simp)
    have hvs : vs = (p0 :: ps).map fun p => Value.string ⟨p.toArray⟩ := repL_vals_eq (us := (p0 :: ps).map fun p => Value.string ⟨p.toArray⟩) (by rw [List.map_map]; exact hr)
    subst hvs
    have key := Tryz.strings_Join b o cap ((p0 :: ps).map fun p => ByteArray.mk p.toArray) ⟨sep.toArray⟩ w (fun j x hx => by
      refine hc j (.string x) ?_
      rw [List.getElem?_map] at hx ⊢
      obtain ⟨p, hp, rfl⟩ := Option.map_eq_some_iff.1 hx
      rw [hp]; rfl) hlt (by rw [List.length_map]; omega) (by rw [List.length_map]; exact hcap) (by rw [hback, T8_list]; exact hl)
    rw [List.length_map, hback, T8_list] at key
    refine key.mono fun e w' ⟨he, hb⟩ => ⟨_, he, ?_, hb⟩
    exact (rep_val (ok := fun b => ok b ∨ w.heap.size ≤ b) (w := w')).2 rfl

end Go.Proofs.YtfcfmpdpjmbcnaaGreatDoor
