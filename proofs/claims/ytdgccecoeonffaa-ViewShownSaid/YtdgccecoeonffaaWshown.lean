/- ViewShown answers true at every input: the walk, at values that read. -/
import Derived.Test.YtdgccecoeonffaaShown
import Derived.Test.YtdgccecoeonffaaRead
namespace Go.Proofs.Ytdgccecoeonffaa
set_option linter.unusedVariables false
set_option linter.unusedSimpArgs false
open Go.ChangeShapes Go.WideShapes Go.ChangeAt Go.RowKit Go.Fol
theorem viewShown_walk (w : World) (v0 v1 : Value) (h0 : Arg Try.prog w 3 v0) (h1 : Arg Try.prog w 31 v1) : Calls Try.prog 5 #[v0, v1] w fun e w' => e = .returned (.bool true) ∧ Below w.heap.size w w' := by
  obtain ⟨a, rfl, wa⟩ := arg_int Try.underlying3 h0
  obtain ⟨b, rfl, wb⟩ := arg_int Try.underlying31 h1
  obtain ⟨l0, g0⟩ := bounds_i64 wa
  obtain ⟨l1, g1⟩ := bounds_u16 wb
  exact (shown_walk a b l0 g0 l1 g1 w).mono fun e w' ⟨he, hw⟩ => ⟨he, hw ▸ Below.refl _ _⟩
end Go.Proofs.Ytdgccecoeonffaa
