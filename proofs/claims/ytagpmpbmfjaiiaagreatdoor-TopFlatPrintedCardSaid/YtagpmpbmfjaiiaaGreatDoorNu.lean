/- Functions of the library on strings, as contracts on values. -/
import Derived.Test.YtagpmpbmfjaiiaaGreatDoorNv
import Derived.Test.YtagpmpbmfjaiiaaGreatDoorSf
import Derived.Lib.AtoiErrMem
set_option linter.unusedVariables false
set_option linter.unusedSimpArgs false
namespace Go.Proofs.YtagpmpbmfjaiiaaGreatDoor
open Go.RowKit
set_option maxRecDepth 20000
set_option maxHeartbeats 4000000

theorem grow_below (w : World) (k : Nat) (os : Array Obj) : Below w.heap.size w (Sort.grow (w.drewN k) os) := by
  refine ⟨rfl, rfl, rfl, ?_, fun b hb => ?_⟩
  · show w.heap.size ≤ (w.heap ++ os).size
    simp
  · show (w.heap ++ os)[b]? = w.heap[b]?
    rw [Array.getElem?_append_left hb]
theorem T8_vals {ok : Nat → Prop} {w : World} {vs : List Value} {l : List UInt8} (h : DV.repL ok w [T8 l] vs) : vs = [.string ⟨l.toArray⟩] := repL_vals_eq (us := [.string ⟨l.toArray⟩]) h
theorem T8_list (l : List UInt8) : (ByteArray.mk l.toArray).data.toList = l := by simp
theorem T8_size (l : List UInt8) : (ByteArray.mk l.toArray).size = l.length := List.size_toArray
theorem itoa_A (n : Int) (hn : I64 n) : AC Tryz.prog 92 [I n] (T8 (Lib.itoa n)) := fun ok w vs hv hG => by
  have hv := repL_vals_eq (us := [.int .i64 n]) hv
  subst hv
  refine (Tryz.strconv_Itoa n hn.1 hn.2 w hG.is.tab).mono fun e w' ⟨he, k, os, hw⟩ => ⟨_, he, ?_, ?_⟩
  · exact (rep_val (ok := fun b => ok b ∨ w.heap.size ≤ b) (w := w')).2 rfl
  · rw [hw]; exact grow_below w k os
theorem atoi_A (l : List UInt8) (hl : l.length ≤ 1000000) (v : Int) (h : Lib.atoiAll l = .ok v) : AC Tryz.prog 97 [T8 l] (.tuple [I v, .val .nilIface]) := fun ok w vs hv hG => by
  have hv := T8_vals hv
  subst hv
  refine (Tryz.strconv_Atoi_ok ⟨l.toArray⟩ (by rw [T8_size]; omega) v (by rw [T8_list]; exact h) w).mono fun e w' ⟨he, hw⟩ => ⟨_, he, ?_, ?_⟩
  · rw [DV.rep]
    exact ⟨[.int .i64 v, .nilIface], rfl, repL_vals [.int .i64 v, .nilIface]⟩
  · rcases hw with rfl | ⟨t, rfl⟩
    · exact Below.refl _ _
    · exact Lib.bytesWorld_below _ _ _
theorem atoi_i64 {l : List UInt8} {v : Int} (h : Lib.atoiAll l = .ok v) : I64 v := Lib.atoiAll_bounds h
/-- The number beside an error. -/
def errN (l : List UInt8) : Int := match Lib.atoiAll l with
  | .range => Lib.atoiSat l
  | _ => 0
theorem errN_i64 (l : List UInt8) : I64 (errN l) := by
  have hb : I64 (Lib.atoiSat l) := by
    unfold Lib.atoiSat
    split
    · exact ⟨by decide, by decide⟩
    · exact ⟨by decide, by decide⟩
  unfold errN
  split
  · exact hb
  · exact ⟨by decide, by decide⟩
/-- A string that is no number: a number, and an error. -/
theorem atoi_E (l : List UInt8) (hl : l.length ≤ 1000000) (h : ∀ v, Lib.atoiAll l ≠ .ok v) : ACe Tryz.prog 97 [T8 l] (fun x : TypeId × Value => .tuple [I (errN l), .val (.iface x.1 x.2)]) := fun ok w vs hv hG => by
  have hv := T8_vals hv
  subst hv
  have hcase : (Lib.atoiAll l = Lib.NumEnd.syntax ∧ errN l = 0) ∨ (Lib.atoiAll l = .range ∧ errN l = Lib.atoiSat l) := by
    unfold errN
    cases ha : Lib.atoiAll l with
    | ok v => exact absurd ha (h v)
    | range => exact .inr ⟨rfl, rfl⟩
    | _ => exact .inl ⟨rfl, rfl⟩
  rcases hcase with ⟨ha, e⟩ | ⟨ha, e⟩
  all_goals rw [e]
  · obtain ⟨tp, p, hs⟩ := hG.is.syn
    refine (Tryz.strconv_Atoi_syntax_var ⟨l.toArray⟩ (by rw [T8_size]; omega) (by rw [T8_list]; exact ha) tp p w hs).mono fun e w' ⟨N, he, _, _, hb⟩ => ⟨(173, .pointer (some ⟨N, 0, none⟩)), _, he, ?_, hb⟩
    rw [DV.rep]
    exact ⟨_, rfl, repL_vals [.int .i64 0, .iface _ _]⟩
  · obtain ⟨tp, p, hs⟩ := hG.is.rng
    have key := Tryz.strconv_Atoi_range_var ⟨l.toArray⟩ (by rw [T8_size]; omega) (by rw [T8_list]; exact ha) tp p w hs
    rw [T8_list] at key
    refine key.mono fun e w' ⟨N, he, _, _, hb⟩ => ⟨(173, .pointer (some ⟨N, 0, none⟩)), _, he, ?_, hb⟩
    rw [DV.rep]
    exact ⟨_, rfl, repL_vals [.int .i64 (Lib.atoiSat l), .iface _ _]⟩
abbrev tsl (ps : List (List UInt8)) : DV := .slice ps.length (ps.map T8)
theorem split_A (l : List UInt8) (c : UInt8) (hl : l.length ≤ 1000000) : AC Tryz.prog 53 [T8 l, T8 [c]] (tsl (cutA c [] l)) := fun ok w vs hv hG => by
  have hv := repL_vals_eq (us := [.string ⟨l.toArray⟩, .string ⟨[c].toArray⟩]) hv
  subst hv
  obtain ⟨m, hm⟩ := hG.is.mxl
  have hg : Tryz.prog.globalNamed "internal/bytealg.MaxLen" = some 0 := by kernel_rfl
  have hm0 := World.var?_cell hg hm 0
  have hcut := splitK_cut c l.length l (Nat.le_refl _)
  have hsb := Lib.splitB_data ⟨[c].toArray⟩ 0 (Lib.countB ⟨l.toArray⟩ ⟨[c].toArray⟩) ⟨l.toArray⟩
  have hcb : Lib.countB ⟨l.toArray⟩ ⟨[c].toArray⟩ = Lib.count l [c] := by
    unfold Lib.countB
    rw [T8_list, T8_list]
  rw [T8_list, T8_list, hcb, hcut] at hsb
  have hall := Lib.splitB_all ⟨[c].toArray⟩ (by rw [T8_size]; exact Nat.le_refl 1) 0 _ ⟨l.toArray⟩ hcb
  refine (Tryz.strings_Split ⟨l.toArray⟩ ⟨[c].toArray⟩ m w (by rw [T8_size]; omega) (by simpa using hm0) (by rw [T8_size]; exact Nat.le_refl 1)).mono fun e w' ⟨he, hw⟩ => ⟨_, he, ?_, ?_⟩
  · rw [hcb]
    generalize Lib.splitB ⟨[c].toArray⟩ 0 (Lib.count l [c]) ⟨l.toArray⟩ = ps at *
    have hlen : (cutA c [] l).length = Lib.count l [c] + 1 := by rw [← hsb, List.length_map, hall]
    have hle := cutA_len c l []
    rw [DV.rep, hlen]
    refine ⟨_, _, rfl, Nat.le_refl _, by show _ ≤ maxLen; unfold maxLen; omega, fun _ => ⟨_, 0, ps.map Value.string, rfl, .inr (Nat.le_refl _), ?_, ?_, ?_, ?_⟩⟩
    · rw [hw, World.size_alloc]; omega
    · rw [hw]
      have := cellsAt_of_heap (vs := ps.map Value.string) (ex := []) (by rw [List.append_nil]; exact World.alloc_heap_new w (.cells (ps.map Value.string).toArray 9)) 0 ps.length
      rw [List.drop_zero, List.take_of_length_le (by simp)] at this
      exact this
    · intro u hu
      obtain ⟨b, _, rfl⟩ := List.mem_map.1 hu
      rfl
    · rw [← hsb, List.map_map]
      have : (T8 ∘ fun x : ByteArray => x.data.toList) = fun b : ByteArray => DV.val (.string b) := by
        funext b
        exact (S_T8 b).symm
      rw [this, show (fun b : ByteArray => DV.val (.string b)) = DV.val ∘ Value.string from rfl, ← List.map_map]
      exact repL_vals _
  · rw [hw]; exact (Below.refl _ _).alloc (Nat.le_refl _) _
theorem join_A (ps : List (List UInt8)) (sep : List UInt8) (hn : ps.length ≤ 1000000) (hl : (Lib.join ps sep).length ≤ 140737488355328) : AC Tryz.prog 93 [tsl ps, T8 sep] (T8 (Lib.join ps sep)) := fun ok w vs hv hG => by
  obtain ⟨u, us, rfl, h1, h2⟩ := repL_cons.1 hv
  obtain rfl := T8_vals h2
  rw [DV.rep] at h1
  obtain ⟨A, cap, rfl, hcap, hcm, h3⟩ := h1
  have hback : ∀ ps : List (List UInt8), ((ps.map fun p => ByteArray.mk p.toArray).map (·.data.toList)) = ps := fun ps => by
    rw [List.map_map]
    exact (List.map_congr_left fun p _ => T8_list p).trans (List.map_id _)
  rcases ps with _ | ⟨p0, ps⟩
  · refine (Tryz.strings_Join_none A cap ⟨sep.toArray⟩ w).mono fun e w' ⟨he, hw⟩ => ⟨_, he, ?_, hw ▸ Below.refl _ _⟩
    exact (rep_val (ok := fun b => ok b ∨ w.heap.size ≤ b) (w := w')).2 rfl
  · obtain ⟨b, o, vs, rfl, _, hlt, hc, _, hr⟩ := h3 (by simp)
    have hvs : vs = (p0 :: ps).map fun p => Value.string ⟨p.toArray⟩ := repL_vals_eq (us := (p0 :: ps).map fun p => Value.string ⟨p.toArray⟩) (by rw [List.map_map]; exact hr)
    subst hvs
    have key := Tryz.strings_Join b o cap ((p0 :: ps).map fun p => ByteArray.mk p.toArray) ⟨sep.toArray⟩ w (fun j x hx => by
      refine hc j (.string x) ?_
      rw [List.getElem?_map] at hx ⊢
      obtain ⟨p, hp, rfl⟩ := Option.map_eq_some_iff.1 hx
      rw [hp]; rfl) hlt (by rw [List.length_map]; omega) (by rw [List.length_map]; exact hcap) (by rw [hback, T8_list]; exact hl)
    rw [List.length_map, hback, T8_list] at key
    refine key.mono fun e w' ⟨he, hb⟩ => ⟨_, he, ?_, hb⟩
    exact (rep_val (ok := fun b => ok b ∨ w.heap.size ≤ b) (w := w')).2 rfl

end Go.Proofs.YtagpmpbmfjaiiaaGreatDoor
