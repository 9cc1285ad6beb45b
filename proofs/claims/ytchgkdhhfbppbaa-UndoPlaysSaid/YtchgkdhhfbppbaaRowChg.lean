/- Rows of api.Change: append. -/
import Derived.Test.YtchgkdhhfbppbaaChecked
import Derived.Test.YtchgkdhhfbppbaaRangeO
namespace Go.Proofs.Ytchgkdhhfbppbaa
open Go Go.RowKit Go.Fol
set_option linter.unusedVariables false
set_option linter.unusedSimpArgs false
section
variable {w0 w : World} {R : List Asrt}
theorem info_chg : (Try.prog.info? 49).map (fun i => (i.zero, i.size, i.bytes)) = some (some (.agg #[.int .i64 0, .slice none 0 0, .slice none 0 0]), 3, 56) := by kernel_rfl
abbrev row_chg (v : Value) (n : Nat) (xs : List Value) : Asrt := Asrt.row 49 3 v n xs
theorem app_chg {s x : Value} {n m : Nat} {xs vs : List Value} (H : Owns w0 w (row_chg s n xs :: R)) (hv : Reads w0 R 3 x m vs) (h1 : ∀ u ∈ vs, u.oneCell' = true) (h63 : n + m ≤ maxLen) (hb : (n + m) * 56 ≤ 140737488355328) :
    ∃ v' w', (∀ ty, (Builtin.append_ #[30, 30] ty #[s, x]).run Try.prog w = .ok v' w') ∧ Owns w0 w' (row_chg v' (n + m) (xs ++ vs) :: R) := by
  obtain ⟨i0, hi, hz0, hz1, hz2⟩ := info_parts info_chg
  exact Owns.app (ty := 0) Try.underlying30 hi hz0 hz1 hz2 rfl (by decide) H hv h1 h63 hb
theorem app0_chg {x : Value} {m : Nat} {vs : List Value} (H : Owns w0 w R) (hv : Reads w0 R 3 x m vs) (h1 : ∀ u ∈ vs, u.oneCell' = true) (h63 : m ≤ maxLen) (hb : m * 56 ≤ 140737488355328) :
    ∃ v' w', (∀ ty, (Builtin.append_ #[30, 30] ty #[.slice none 0 0, x]).run Try.prog w = .ok v' w') ∧ Owns w0 w' (row_chg v' m vs :: R) := by
  obtain ⟨v', w', h2, h3⟩ := app_chg (H.rowNil 49 3) hv h1 (by omega) (by simpa using hb)
  exact ⟨v', w', h2, by simpa using h3⟩
end
end Go.Proofs.Ytchgkdhhfbppbaa
