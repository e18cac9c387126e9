/- Ratios of runs. -/
import Derived.Test.YtfcfmpdpjmbcnaaGreatSc
import Derived.Test.YtfcfmpdpjmbcnaaGreatSg
set_option linter.unusedVariables false
set_option linter.unusedSimpArgs false
namespace Go.Proofs.YtfcfmpdpjmbcnaaGreat
open Go.RowKit
set_option maxRecDepth 20000
set_option maxHeartbeats 8000000

theorem Ov.ratS {D : Int} {K : Nat} {r : Rat} (h : Ov D K r) (hD : 0 < D) (hD2 : D ≤ 1000000000000000000) (hK : K ≤ 1000000000000000000) : RatS 3 r := by
  obtain ⟨N, h1, h2⟩ := h
  rw [ov_eq (by omega) h1]
  exact ratS_divInt N hD (wlen_int ⟨by omega, by omega⟩) (wlen_int ⟨by omega, by omega⟩)
abbrev raS (l : List Rat) : List DV := (l.map ratC).flatten
theorem ratC_len (r : Rat) : (ratC r).length = 4 := rfl
theorem raS_len (l : List Rat) : (raS l).length = l.length * 4 := flat_len ratC 4 ratC_len l
theorem raS_snoc (l : List Rat) (r : Rat) : raS l ++ ratC r = raS (l ++ [r]) := by simp [raS]
theorem int_ratS {n : Int} (h : n.natAbs ≤ 1000000000000000000) : RatS 3 (n : Rat) := ⟨wlen_int ⟨by show -9223372036854775808 ≤ n; omega, by show n ≤ 9223372036854775807; omega⟩, by show wlen ((1 : Nat) : Int) ≤ 3; exact wlen_int ⟨by decide, by decide⟩⟩
theorem divInt_ratS {a b : Int} (ha : a.natAbs ≤ 1000000000000000000) (hb : 0 < b) (hb2 : b ≤ 1000000000000000000) : RatS 3 (Rat.divInt a b) := ratS_divInt a hb (wlen_int ⟨by omega, by omega⟩) (wlen_int ⟨by omega, by omega⟩)

end Go.Proofs.YtfcfmpdpjmbcnaaGreat
