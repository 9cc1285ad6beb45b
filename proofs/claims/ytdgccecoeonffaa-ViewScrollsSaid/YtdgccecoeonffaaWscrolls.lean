/- ViewScrolls answers true at every input: the walk, at values that read. -/
import Derived.Test.YtdgccecoeonffaaScrolls
import Derived.Test.YtdgccecoeonffaaRead
namespace Go.Proofs.Ytdgccecoeonffaa
set_option linter.unusedVariables false
set_option linter.unusedSimpArgs false
open Go.ChangeShapes Go.WideShapes Go.ChangeAt Go.RowKit Go.Fol
theorem viewScrolls_walk (w : World) (v0 v1 v2 : Value) (h0 : Arg Try.prog w 3 v0) (h1 : Arg Try.prog w 3 v1) (h2 : Arg Try.prog w 3 v2) : Calls Try.prog 3 #[v0, v1, v2] w fun e w' => e = .returned (.bool true) ∧ Below w.heap.size w w' := by
  obtain ⟨a, rfl, wa⟩ := arg_int Try.underlying3 h0
  obtain ⟨b, rfl, wb⟩ := arg_int Try.underlying3 h1
  obtain ⟨c, rfl, wc⟩ := arg_int Try.underlying3 h2
  obtain ⟨l0, g0⟩ := bounds_i64 wa
  obtain ⟨l1, g1⟩ := bounds_i64 wb
  obtain ⟨l2, g2⟩ := bounds_i64 wc
  exact scrolls_walk a b c l0 g0 l1 g1 l2 g2 w
end Go.Proofs.Ytdgccecoeonffaa
