/- Nothing is asked of package-level variables. (For statements on strings: the text of the same name in tpl/d.) -/
import Derived.WalkKit
set_option linter.unusedVariables false
set_option linter.unusedSimpArgs false
namespace Go.Proofs.Ytgjhikjnlcbmkaa
open Go

def Glob (_ : World) : Prop := True
def GBlk (_ : Nat) : Prop := False
class GlobI (w : World) : Prop where
  is : Glob w
instance (w : World) : GlobI w := ⟨trivial⟩
theorem Glob.cells {w : World} (_ : Glob w) {b : Nat} (h : GBlk b) : ∃ cs t f, w.heap[b]? = some (.cells cs t f) := h.elim
theorem Glob.lt {w : World} (h : Glob w) {b : Nat} (hb : GBlk b) : b < w.heap.size := by
  obtain ⟨cs, t, f, hc⟩ := h.cells hb
  exact (Array.getElem?_eq_some_iff.1 hc).1
theorem Glob.keeps {w w' : World} (_ : Glob w) (_ : ∀ b, GBlk b → w'.heap[b]? = w.heap[b]?) : Glob w' := trivial

end Go.Proofs.Ytgjhikjnlcbmkaa
