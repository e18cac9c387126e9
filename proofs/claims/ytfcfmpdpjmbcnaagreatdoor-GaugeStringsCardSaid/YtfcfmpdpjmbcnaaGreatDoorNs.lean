/- Strings: operations on them, as lists of bytes. Nothing of the program. -/
import Derived.Test.YtfcfmpdpjmbcnaaGreatDoorM9
import Derived.Laws.Concat
import Derived.Laws.IdiomStrings
set_option linter.unusedVariables false
set_option linter.unusedSimpArgs false
namespace Go.Proofs.YtfcfmpdpjmbcnaaGreatDoor
open Go.RowKit
set_option maxRecDepth 20000

/-- A string of these bytes. -/
abbrev T8 (l : List UInt8) : DV := .val (.string ⟨l.toArray⟩)
/-- A byte. -/
abbrev U8 (u : UInt8) : DV := .val (.int .u8 u.toNat)
theorem S_T8 (b : ByteArray) : S b = T8 b.data.toList := by
  show DV.val (.string b) = .val (.string ⟨b.data.toList.toArray⟩)
  rw [Array.toArray_toList]
section
variable {P : Program} {s : AS} {dst : Option Tmp} {ty : TypeId} {ps : String} {af : Array Edge} {t t' : TypeId} {x y : Operand}
theorem o_addT {a b : List UInt8} (hx : s.ev x = .d (T8 a)) (hy : s.ev y = .d (T8 b)) (ha : a.length ≤ 8388608) (hb : b.length ≤ 8388608) (gd : Option (Nat × Bool)) : Does P ⟨dst, .binOp .add t x y t', ty, ps, af, gd⟩ s [] (.put (.d (T8 (a ++ b)))) :=
  does_bin hx hy fun w => by
    have e1 : (eqGuard .add t x y (.string ⟨a.toArray⟩) (.string ⟨b.toArray⟩)).run P w = .ok () w := by unfold eqGuard; rfl
    rw [Sem.run_bind, e1, Result.andThen_ok, binOp_string_add]
    exact run_string_add_lists w a b (by omega) (by omega)
theorem o_eqlT {a b : List UInt8} (hx : s.ev x = .d (T8 a)) (hy : s.ev y = .d (T8 b)) (gd : Option (Nat × Bool)) : Does P ⟨dst, .binOp .eql t x y t', ty, ps, af, gd⟩ s [] (.put (.d (B (decide (a = b))))) :=
  does_bin hx hy fun w => by
    have e1 : (eqGuard .eql t x y (.string ⟨a.toArray⟩) (.string ⟨b.toArray⟩)).run P w = .ok () w := by unfold eqGuard; rfl
    have e2 : (a == b) = decide (a = b) := by rw [Bool.eq_iff_iff]; simp
    rw [Sem.run_bind, e1, Result.andThen_ok, binOp_string_eql, ByteArray.toList_mk, ByteArray.toList_mk, e2]
    rfl
theorem o_neqT {a b : List UInt8} (hx : s.ev x = .d (T8 a)) (hy : s.ev y = .d (T8 b)) (gd : Option (Nat × Bool)) : Does P ⟨dst, .binOp .neq t x y t', ty, ps, af, gd⟩ s [] (.put (.d (B (!decide (a = b))))) :=
  does_bin hx hy fun w => by
    have e1 : (eqGuard .neq t x y (.string ⟨a.toArray⟩) (.string ⟨b.toArray⟩)).run P w = .ok () w := by unfold eqGuard; rfl
    have e2 : (a == b) = decide (a = b) := by rw [Bool.eq_iff_iff]; simp
    rw [Sem.run_bind, e1, Result.andThen_ok, binOp_string_neq, ByteArray.toList_mk, ByteArray.toList_mk, e2]
    rfl
theorem o_lenT8 {a : List UInt8} [ht : UndI P t .string] (hx : s.ev x = .d (T8 a)) (gd : Option (Nat × Bool)) : Does P ⟨dst, .call ⟨.builtin .len, #[x], #[t]⟩, ty, ps, af, gd⟩ s [] (.put (.d (I a.length))) := by
  have h := o_lenT (P := P) (s := s) (dst := dst) (ty := ty) (ps := ps) (af := af) (t := t) hx gd
  have e : (ByteArray.mk a.toArray).size = a.length := List.size_toArray
  rw [e] at h
  exact h
theorem o_indexT8 {a : List UInt8} {i : Nat} {k : IntKind} [ht : UndI P t .string] (hx : s.ev x = .d (T8 a)) (hy : s.ev y = .d (.val (.int k (i : Int)))) (hi : i < a.length) (gd : Option (Nat × Bool)) :
    Does P ⟨dst, .index t x y, ty, ps, af, gd⟩ s [] (.put (.d (U8 (a.getD i 0)))) := by
  refine o_indexT (i := (i : Int)) hx hy (by omega) ?_ gd
  have e : i < (ByteArray.mk a.toArray).size := by rw [show (ByteArray.mk a.toArray).size = a.length from List.size_toArray]; exact hi
  rw [Int.toNat_natCast, ByteArray.getElem?_lt' _ _ e, List.getD_eq_getElem?_getD, List.getElem?_eq_getElem hi]
  exact congrArg some (show a.toArray[i]'(by simpa using hi) = a[i] by simp)
/-- Parts of a string. -/
theorem o_sliceT {a : List UInt8} {i j : Nat} {k k' : IntKind} {lo hi : Operand} [ht : UndI P t .string] (hx : s.ev x = .d (T8 a)) (hl : s.ev lo = .d (.val (.int k (i : Int)))) (hh : s.ev hi = .d (.val (.int k' (j : Int)))) (h1 : i ≤ j) (h2 : j ≤ a.length) (gd : Option (Nat × Bool)) :
    Does P ⟨dst, .slice t x (some lo) (some hi) none, ty, ps, af, gd⟩ s [] (.put (.d (T8 ((a.drop i).take (j - i))))) :=
  does_pure fun c s' φ a' w hR hop => by
    have e1 := ge_val hR (hop x (by simp [Op.operands])) hx
    have e2 := ge_val hR (hop lo (by simp [Op.operands])) hl
    have e3 := ge_val hR (hop hi (by simp [Op.operands])) hh
    have hz : (ByteArray.mk a.toArray).size = a.length := List.size_toArray
    refine ⟨_, ?_, (rep_val (ok := okOf c φ s') (w := w)).2 rfl⟩
    simp only [execOp, e1, e2, e3, Option.map_some, Option.map_none, run_sliceAt_string (P := P) w t _ _ _ _ ht.eq, Sem.run_bind]
    rw [run_slice_string w t _ k k' (i : Int) (j : Int) ht.eq (by omega) (by omega) (by rw [hz]; omega), ByteArray.extract_mk, Int.toNat_natCast, Int.toNat_natCast]
    rfl
theorem o_sliceTL {a : List UInt8} {i : Nat} {k : IntKind} {lo : Operand} [ht : UndI P t .string] (hx : s.ev x = .d (T8 a)) (hl : s.ev lo = .d (.val (.int k (i : Int)))) (h1 : i ≤ a.length) (gd : Option (Nat × Bool)) :
    Does P ⟨dst, .slice t x (some lo) none none, ty, ps, af, gd⟩ s [] (.put (.d (T8 (a.drop i)))) :=
  does_pure fun c s' φ a' w hR hop => by
    have e1 := ge_val hR (hop x (by simp [Op.operands])) hx
    have e2 := ge_val hR (hop lo (by simp [Op.operands])) hl
    have hz : (ByteArray.mk a.toArray).size = a.length := List.size_toArray
    have he : (a.drop i).take (a.length - i) = a.drop i := List.take_of_length_le (by rw [List.length_drop]; exact Nat.le_refl _)
    refine ⟨_, ?_, (rep_val (ok := okOf c φ s') (w := w)).2 rfl⟩
    simp only [execOp, e1, e2, Option.map_some, Option.map_none, run_sliceAt_string (P := P) w t _ _ _ _ ht.eq, Sem.run_bind]
    rw [run_slice_string_l w t _ ht.eq k (i : Int) (by omega) (by rw [hz]; omega), hz, ByteArray.extract_mk, Int.toNat_natCast, he]
    rfl
theorem o_sliceTH {a : List UInt8} {j : Nat} {k : IntKind} {hi : Operand} [ht : UndI P t .string] (hx : s.ev x = .d (T8 a)) (hh : s.ev hi = .d (.val (.int k (j : Int)))) (h2 : j ≤ a.length) (gd : Option (Nat × Bool)) :
    Does P ⟨dst, .slice t x none (some hi) none, ty, ps, af, gd⟩ s [] (.put (.d (T8 (a.take j)))) :=
  does_pure fun c s' φ a' w hR hop => by
    have e1 := ge_val hR (hop x (by simp [Op.operands])) hx
    have e3 := ge_val hR (hop hi (by simp [Op.operands])) hh
    have hz : (ByteArray.mk a.toArray).size = a.length := List.size_toArray
    refine ⟨_, ?_, (rep_val (ok := okOf c φ s') (w := w)).2 rfl⟩
    simp only [execOp, e1, e3, Option.map_some, Option.map_none, run_sliceAt_string (P := P) w t _ _ _ _ ht.eq, Sem.run_bind]
    rw [run_slice_string_h w t _ ht.eq k (j : Int) (by omega) (by rw [hz]; omega), ByteArray.extract_mk, Int.toNat_natCast, List.drop_zero, Nat.sub_zero]
    rfl
/-- The string of some bytes. -/
theorem o_convBT {l : List UInt8} {n : Nat} {e : TypeId} [hs : UndI P t (.slice e)] [he : UndI P e (.int .u8)] [hd : UndI P t' .string] (hx : s.ev x = .d (.slice n (l.map U8))) (hn : n = l.length) (hne : l ≠ []) (gd : Option (Nat × Bool)) :
    Does P ⟨dst, .convert t t' x, ty, ps, af, gd⟩ s [] (.put (.d (T8 l))) :=
  does_pure fun c s' φ a' w hR hop => by
    subst hn
    have e1 := ge_d hR (hop x (by simp [Op.operands])) hx
    rw [DV.rep] at e1
    obtain ⟨A, cap, e1, _, _, h3⟩ := e1
    obtain ⟨b, o, vs, rfl, _, _, hc, _, hr⟩ := h3 (by simpa using hne)
    have hvs : vs = l.map fun u => Value.int .u8 u.toNat := repL_vals_eq (us := l.map fun u => Value.int .u8 u.toNat) (by rw [List.map_map]; exact hr)
    subst hvs
    refine ⟨_, ?_, (rep_val (ok := okOf c φ s') (w := w)).2 rfl⟩
    simp only [execOp, e1]
    rw [Sem.run_bind, run_convert_bytes_back w t t' e ⟨b, o, none⟩ cap l hs.eq he.eq hd.eq fun j hj => ?_]
    · rfl
    · have := hc j (.int .u8 (l[j].toNat : Int)) (by rw [List.getElem?_map, List.getElem?_eq_getElem hj]; rfl)
      rw [show (⟨b, o, none⟩ : Addr).add j = ⟨b, o + j, none⟩ by simp [Addr.add]]; exact this
end

end Go.Proofs.YtfcfmpdpjmbcnaaGreatDoor
