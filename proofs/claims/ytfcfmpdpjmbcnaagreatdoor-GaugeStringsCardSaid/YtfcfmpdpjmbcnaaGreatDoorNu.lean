/- Functions of the library on strings, as contracts on values. -/
import Derived.Test.YtfcfmpdpjmbcnaaGreatDoorNv
import Derived.Test.YtfcfmpdpjmbcnaaGreatDoorSf
import Derived.Lib.AtoiErrMem
set_option linter.unusedVariables false
set_option linter.unusedSimpArgs false
namespace Go.Proofs.YtfcfmpdpjmbcnaaGreatDoor
open Go.RowKit
set_option maxRecDepth 20000
set_option maxHeartbeats 4000000

theorem grow_below (w : World) (k : Nat) (os : Array Obj) : Below w.heap.size w (Sort.grow (w.drewN k) os) := by
  refine ⟨rfl, rfl, rfl, ?_, fun b hb => ?_⟩
  · show w.heap.size ≤ (w.heap ++ os).size
    simp
  · show (w.heap ++ os)[b]? = w.heap[b]?
    rw [Array.getElem?_append_left hb]
theorem T8_vals {ok : Nat → Prop} {w : World} {vs : List Value} {l : List UInt8} (h : DV.repL ok w [T8 l] vs) : vs = [.string ⟨l.toArray⟩] := repL_vals_eq (us := [.string ⟨l.toArray⟩]) h
theorem T8_list (l : List UInt8) : (ByteArray.mk l.toArray).data.toList = l := by simp
theorem T8_size (l : List UInt8) : (ByteArray.mk l.toArray).size = l.length := List.size_toArray
theorem itoa_A (n : Int) (hn : I64 n) : AC Tryz.prog 40 [I n] (T8 (Lib.itoa n)) := fun ok w vs hv hG => by
  have hv := repL_vals_eq (us := [.int .i64 n]) hv
  subst hv
  refine (Tryz.strconv_Itoa n hn.1 hn.2 w hG.is.tab).mono fun e w' ⟨he, k, os, hw⟩ => ⟨_, he, ?_, ?_⟩
  · exact (rep_val (ok := fun b => ok b ∨ w.heap.size ≤ b) (w := w')).2 rfl
  · rw [hw]; exact grow_below w k os
theorem atoi_A (l : List UInt8) (hl : l.length ≤ 1000000) (v : Int) (h : Lib.atoiAll l = .ok v) : AC Tryz.prog 96 [T8 l] (.tuple [I v, .val .nilIface]) := fun ok w vs hv hG => by
  have hv := T8_vals hv
  subst hv
  refine (Tryz.strconv_Atoi_ok ⟨l.toArray⟩ (by rw [T8_size]; omega) v (by rw [T8_list]; exact h) w).mono fun e w' ⟨he, hw⟩ => ⟨_, he, ?_, ?_⟩
  · rw [DV.rep]
    exact ⟨[.int .i64 v, .nilIface], rfl, repL_vals [.int .i64 v, .nilIface]⟩
  · rcases hw with rfl | ⟨t, rfl⟩
    · exact Below.refl _ _
    · exact Lib.bytesWorld_below _ _ _
theorem atoi_i64 {l : List UInt8} {v : Int} (h : Lib.atoiAll l = .ok v) : I64 v := Lib.atoiAll_bounds h
/-- The number beside an error. -/
def errN (l : List UInt8) : Int := match Lib.atoiAll l with
  | .range => Lib.atoiSat l
  | _ => 0
theorem errN_i64 (l : List UInt8) : I64 (errN l) := by
  have hb : I64 (Lib.atoiSat l) := by
    unfold Lib.atoiSat
    split
    · exact ⟨by decide, by decide⟩
    · exact ⟨by decide, by decide⟩
  unfold errN
  split
  · exact hb
  · exact ⟨by decide, by decide⟩
/-- A string that is no number: a number, and an error. -/
theorem atoi_E (l : List UInt8) (hl : l.length ≤ 1000000) (h : ∀ v, Lib.atoiAll l ≠ .ok v) : ACe Tryz.prog 96 [T8 l] (fun x : TypeId × Value => .tuple [I (errN l), .val (.iface x.1 x.2)]) := fun ok w vs hv hG => by
  have hv := T8_vals hv
  subst hv
  have hcase : (Lib.atoiAll l = Lib.NumEnd.syntax ∧ errN l = 0) ∨ (Lib.atoiAll l = .range ∧ errN l = Lib.atoiSat l) := by
    unfold errN
    cases ha : Lib.atoiAll l with
    | ok v => exact absurd ha (h v)
    | range => exact .inr ⟨rfl, rfl⟩
    | _ => exact .inl ⟨rfl, rfl⟩
  rcases hcase with ⟨ha, e⟩ | ⟨ha, e⟩
  all_goals rw [e]
  · obtain ⟨tp, p, hs⟩ := hG.is.syn
    refine (Tryz.strconv_Atoi_syntax_var ⟨l.toArray⟩ (by rw [T8_size]; omega) (by rw [T8_list]; exact ha) tp p w hs).mono fun e w' ⟨N, he, _, _, hb⟩ => ⟨(198, .pointer (some ⟨N, 0, none⟩)), _, he, ?_, hb⟩
    rw [DV.rep]
    exact ⟨_, rfl, repL_vals [.int .i64 0, .iface _ _]⟩
  · obtain ⟨tp, p, hs⟩ := hG.is.rng
    have key := Tryz.strconv_Atoi_range_var ⟨l.toArray⟩ (by rw [T8_size]; omega) (by rw [T8_list]; exact ha) tp p w hs
    rw [T8_list] at key
    refine key.mono fun e w' ⟨N, he, _, _, hb⟩ => ⟨(198, .pointer (some ⟨N, 0, none⟩)), _, he, ?_, hb⟩
    rw [DV.rep]
    exact ⟨_, rfl, repL_vals [.int .i64 (Lib.atoiSat l), .iface _ _]⟩
abbrev tsl (ps : List (List UInt8)) : DV := .slice ps.length (ps.map T8)
theorem join_A (ps : List (List UInt8)) (sep : List UInt8) (hn : ps.length ≤ 1000000) (hl : (Lib.join ps sep).length ≤ 140737488355328) : AC Tryz.prog 41 [tsl ps, T8 sep] (T8 (Lib.join ps sep)) := fun ok w vs hv hG => by
  obtain ⟨u, us, rfl, h1, h2⟩ := repL_cons.1 hv
  obtain rfl := T8_vals h2
  rw [DV.rep] at h1
  obtain ⟨A, cap, rfl, hcap, hcm, h3⟩ := h1
  have hback : ∀ ps : List (List UInt8), ((ps.map fun p => ByteArray.mk p.toArray).map (·.data.toList)) = ps := fun ps => by
    rw [List.map_map]
    exact (List.map_congr_left fun p _ => T8_list p).trans (List.map_id _)
  rcases ps with _ | ⟨p0, ps⟩
  · refine (Tryz.strings_Join_none A cap ⟨sep.toArray⟩ w).mono fun e w' ⟨he, hw⟩ => ⟨_, he, ?_, hw ▸ Below.refl _ _⟩
    exact (rep_val (ok := fun b => ok b ∨ w.heap.size ≤ b) (w := w')).2 rfl
  · obtain ⟨b, o, vs, rfl, _, hlt, hc, _, hr⟩ := h3 (by simp)
    have hvs : vs = (p0 :: ps).map fun p => Value.string ⟨p.toArray⟩ := repL_vals_eq (us := (p0 :: ps).map fun p => Value.string ⟨p.toArray⟩) (by rw [List.map_map]; exact hr)
    subst hvs
    have key := Tryz.strings_Join b o cap ((p0 :: ps).map fun p => ByteArray.mk p.toArray) ⟨sep.toArray⟩ w (fun j x hx => by
      refine hc j (.string x) ?_
      rw [List.getElem?_map] at hx ⊢
      obtain ⟨p, hp, rfl⟩ := Option.map_eq_some_iff.1 hx
      rw [hp]; rfl) hlt (by rw [List.length_map]; omega) (by rw [List.length_map]; exact hcap) (by rw [hback, T8_list]; exact hl)
    rw [List.length_map, hback, T8_list] at key
    refine key.mono fun e w' ⟨he, hb⟩ => ⟨_, he, ?_, hb⟩
    exact (rep_val (ok := fun b => ok b ∨ w.heap.size ≤ b) (w := w')).2 rfl

end Go.Proofs.YtfcfmpdpjmbcnaaGreatDoor
