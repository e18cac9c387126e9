/- Ratios of runs. -/
import Derived.Test.YtfcfmpdpjmbcnaaGreatSc
import Derived.Test.YtfcfmpdpjmbcnaaGreatSg
set_option linter.unusedVariables false
set_option linter.unusedSimpArgs false
namespace Go.Proofs.YtfcfmpdpjmbcnaaGreat
open Go.RowKit
set_option maxRecDepth 20000
set_option maxHeartbeats 8000000

theorem Ov.ratS {D : Int} {K : Nat} {r : Rat} (h : Ov D K r) (hD : 0 < D) (hD2 : D ≤ 1000000000000000000) (hK : K ≤ 1000000000000000000) : RatS 3 r := by
  obtain ⟨N, h1, h2⟩ := h
  rw [ov_eq (by omega) h1]
  exact ratS_divInt N hD (wlen_int ⟨by omega, by omega⟩) (wlen_int ⟨by omega, by omega⟩)
theorem qfrac_A (r : Rat) (h : RatS 100000 r) : AC Tryz.prog 50 [ratV r] (.tuple [F2 (frQ r).1, I (frQ r).2]) := by
  have w := ratioFrac_A r h
  unfold frQ
  cases hs : smQ r
  · rw [hs] at w
    refine ac_body Tryz.func50 rfl (by kernel_rfl) fun w0 ok => ?_; show AWp _ (ctx0 w0 ok _) _ (ARet _ _ _) (entry _)
    (repeat' (first | (with_reducible first | intro hg | refine mv (by constructor) ?_) | ((with_reducible first | refine zR ?_ ?_ | refine zW mixed ?_ ?_); exact kr) | ((with_reducible apply zK); exact rfl; exact tf) | ((with_reducible apply zCD); exact rfl) | ((with_reducible apply zCN); exact rfl) | ((with_reducible apply zC); exact rfl) | ((with_reducible refine zX ?_ ?_); exact rfl) | ((with_reducible refine zE (And.intro ?_ ?_)); exact kr) | (with_reducible refine zE ?_) | ((with_reducible apply zP); (first | exact dp | exact oc rfl (w))) | ((with_reducible apply zN); exact dn) | ((with_reducible apply zA); exact da) | ((with_reducible apply zS); exact ds) | ((with_reducible apply zY); exact rfl; exact rfl; exact tf) | ((with_reducible apply zG); exact rfl; exact rfl; exact tf) | ((with_reducible apply zU); exact rfl; exact rfl) | ((with_reducible apply zD); exact rfl; exact rfl) | ((with_reducible apply zB); exact rfl; exact rfl)))
    ((with_reducible first | apply q_retR | apply q_retN); exact rl)
    rfl
  · rw [hs] at w
    refine ac_body Tryz.func50 rfl (by kernel_rfl) fun w0 ok => ?_; show AWp _ (ctx0 w0 ok _) _ (ARet _ _ _) (entry _)
    (repeat' (first | (with_reducible first | intro hg | refine mv (by constructor) ?_) | ((with_reducible first | refine zR ?_ ?_ | refine zW mixed ?_ ?_); exact kr) | ((with_reducible apply zK); exact rfl; exact tf) | ((with_reducible apply zCD); exact rfl) | ((with_reducible apply zCN); exact rfl) | ((with_reducible apply zC); exact rfl) | ((with_reducible refine zX ?_ ?_); exact rfl) | ((with_reducible refine zE (And.intro ?_ ?_)); exact kr) | (with_reducible refine zE ?_) | ((with_reducible apply zP); (first | exact dp | exact oc rfl (w))) | ((with_reducible apply zN); exact dn) | ((with_reducible apply zA); exact da) | ((with_reducible apply zS); exact ds) | ((with_reducible apply zY); exact rfl; exact rfl; exact tf) | ((with_reducible apply zG); exact rfl; exact rfl; exact tf) | ((with_reducible apply zU); exact rfl; exact rfl) | ((with_reducible apply zD); exact rfl; exact rfl) | ((with_reducible apply zB); exact rfl; exact rfl)))
    ((with_reducible first | apply q_retR | apply q_retN); exact rl)
    rfl
abbrev raS (l : List Rat) : List DV := (l.map ratC).flatten
theorem ratC_len (r : Rat) : (ratC r).length = 4 := rfl
theorem raS_len (l : List Rat) : (raS l).length = l.length * 4 := flat_len ratC 4 ratC_len l
theorem raS_snoc (l : List Rat) (r : Rat) : raS l ++ ratC r = raS (l ++ [r]) := by simp [raS]
abbrev raV (l : List Rat) : DV := .slice l.length (raS l)
theorem int_ratS {n : Int} (h : n.natAbs ≤ 1000000000000000000) : RatS 3 (n : Rat) := ⟨wlen_int ⟨by show -9223372036854775808 ≤ n; omega, by show n ≤ 9223372036854775807; omega⟩, by show wlen ((1 : Nat) : Int) ≤ 3; exact wlen_int ⟨by decide, by decide⟩⟩
theorem divInt_ratS {a b : Int} (ha : a.natAbs ≤ 1000000000000000000) (hb : 0 < b) (hb2 : b ≤ 1000000000000000000) : RatS 3 (Rat.divInt a b) := ratS_divInt a hb (wlen_int ⟨by omega, by omega⟩) (wlen_int ⟨by omega, by omega⟩)

end Go.Proofs.YtfcfmpdpjmbcnaaGreat
