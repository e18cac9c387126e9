/- What is asked of package-level variables: the table of powers of ten, the two errors of numbers, and a number of the search for strings. -/
import Derived.WalkKit
import Derived.Lib.LaidTab
import Derived.Lib.ItoaNum
import Derived.Test.YtfcfmpdpjmbcnaaGreatDoorRows
set_option linter.unusedVariables false
set_option linter.unusedSimpArgs false
namespace Go.Proofs.YtfcfmpdpjmbcnaaGreatDoor
open Go Go.RowKit

def gNames : List String := ["internal/strconv.uint64pow10", "strconv.ErrSyntax", "strconv.ErrRange", "internal/bytealg.MaxLen"]
/-- What is known of package-level variables. -/
structure Glob (w : World) : Prop where
  tab : Lib.TabIs Tryz.prog w "internal/strconv.uint64pow10" .u64 Lib.pow10Tab
  syn : ∃ tp p, w.var? Tryz.prog "strconv.ErrSyntax" = some #[.iface tp p]
  rng : ∃ tp p, w.var? Tryz.prog "strconv.ErrRange" = some #[.iface tp p]
  mxl : ∃ m, w.var? Tryz.prog "internal/bytealg.MaxLen" = some #[.int .i64 m]
/-- The blocks in which they lie. -/
def GBlk (b : Nat) : Prop := ∃ n ∈ gNames, Tryz.prog.globalNamed n = some b
class GlobI (w : World) : Prop where
  is : Glob w
theorem var_some {w : World} {n : String} {cs : Array Value} (h : w.var? Tryz.prog n = some cs) {b : Nat} (hb : Tryz.prog.globalNamed n = some b) : ∃ cs t f, w.heap[b]? = some (.cells cs t f) := by
  unfold World.var? at h
  rw [hb] at h
  simp only [Option.bind_some] at h
  split at h
  · exact ⟨_, _, _, by assumption⟩
  · cases h
theorem var_same {w w' : World} (hs : ∀ b, GBlk b → w'.heap[b]? = w.heap[b]?) {n : String} (hn : n ∈ gNames) : w'.var? Tryz.prog n = w.var? Tryz.prog n := by
  unfold World.var?
  cases h : Tryz.prog.globalNamed n with
  | none => rfl
  | some b =>
    simp only [Option.bind_some]
    rw [hs b ⟨n, hn, h⟩]
theorem Glob.cells {w : World} (h : Glob w) {b : Nat} (hb : GBlk b) : ∃ cs t f, w.heap[b]? = some (.cells cs t f) := by
  obtain ⟨n, hn, hg⟩ := hb
  obtain ⟨t1, p1, h1⟩ := h.syn
  obtain ⟨t2, p2, h2⟩ := h.rng
  obtain ⟨m, h3⟩ := h.mxl
  simp only [gNames, List.mem_cons, List.not_mem_nil, or_false] at hn
  rcases hn with rfl | rfl | rfl | rfl
  · exact var_some h.tab hg
  · exact var_some h1 hg
  · exact var_some h2 hg
  · exact var_some h3 hg
theorem Glob.lt {w : World} (h : Glob w) {b : Nat} (hb : GBlk b) : b < w.heap.size := by
  obtain ⟨cs, t, f, hc⟩ := h.cells hb
  exact (Array.getElem?_eq_some_iff.1 hc).1
theorem Glob.keeps {w w' : World} (h : Glob w) (hs : ∀ b, GBlk b → w'.heap[b]? = w.heap[b]?) : Glob w' := by
  obtain ⟨t1, p1, h1⟩ := h.syn
  obtain ⟨t2, p2, h2⟩ := h.rng
  obtain ⟨m, h3⟩ := h.mxl
  refine ⟨(var_same hs (by simp [gNames])).trans h.tab, ⟨t1, p1, (var_same hs (by simp [gNames])).trans h1⟩, ⟨t2, p2, (var_same hs (by simp [gNames])).trans h2⟩, ⟨m, (var_same hs (by simp [gNames])).trans h3⟩⟩

end Go.Proofs.YtfcfmpdpjmbcnaaGreatDoor
