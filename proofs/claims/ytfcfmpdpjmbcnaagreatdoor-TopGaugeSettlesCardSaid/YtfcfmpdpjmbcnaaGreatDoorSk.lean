/- Ratios of runs. -/
import Derived.Test.YtfcfmpdpjmbcnaaGreatDoorSff
import Derived.Test.YtfcfmpdpjmbcnaaGreatDoorSg
set_option linter.unusedVariables false
set_option linter.unusedSimpArgs false
namespace Go.Proofs.YtfcfmpdpjmbcnaaGreatDoor
open Go.RowKit
set_option maxRecDepth 20000
set_option maxHeartbeats 8000000

abbrev raS (l : List Rat) : List DV := (l.map ratC).flatten
theorem ratC_len (r : Rat) : (ratC r).length = 4 := rfl
theorem raS_len (l : List Rat) : (raS l).length = l.length * 4 := flat_len ratC 4 ratC_len l
theorem int_ratS {n : Int} (h : n.natAbs ≤ 1000000000000000000) : RatS 3 (n : Rat) := ⟨wlen_int ⟨by show -9223372036854775808 ≤ n; omega, by show n ≤ 9223372036854775807; omega⟩, by show wlen ((1 : Nat) : Int) ≤ 3; exact wlen_int ⟨by decide, by decide⟩⟩
theorem divInt_ratS {a b : Int} (ha : a.natAbs ≤ 1000000000000000000) (hb : 0 < b) (hb2 : b ≤ 1000000000000000000) : RatS 3 (Rat.divInt a b) := ratS_divInt a hb (wlen_int ⟨by omega, by omega⟩) (wlen_int ⟨by omega, by omega⟩)

end Go.Proofs.YtfcfmpdpjmbcnaaGreatDoor
/- Merged: XSh XSk. -/
set_option linter.unusedVariables false
set_option linter.unusedSimpArgs false
/- The reference of runs. -/
namespace Go.Proofs.YtfcfmpdpjmbcnaaGreatDoor
open Go.RowKit
set_option maxRecDepth 20000
set_option maxHeartbeats 8000000

structure QsOk (den : Int) (x : List Int) (cs : List (List Int)) (es : List Int) : Prop where
  d : 1 ≤ den ∧ den ≤ 10
  l1 : 1 ≤ x.length
  l3 : x.length ≤ 3
  xb : ∀ i, (nth x i).natAbs ≤ 100
  cl : cs.length ≤ 9
  cf : CfOk x.length cs
  el : cs.length ≤ es.length
  em : es.length ≤ 1000000
  eb : ∀ t, (nth es t).natAbs ≤ 100
end Go.Proofs.YtfcfmpdpjmbcnaaGreatDoor

/- The reference's run of a loop. -/
namespace Go.Proofs.YtfcfmpdpjmbcnaaGreatDoor
open Go.RowKit
set_option maxRecDepth 20000
set_option maxHeartbeats 8000000

end Go.Proofs.YtfcfmpdpjmbcnaaGreatDoor
