/- Rows of int: append. -/
import Derived.Test.YtaekfmbfejgldaaChecked
import Derived.Test.YtaekfmbfejgldaaRangeO
namespace Go.Proofs.Ytaekfmbfejgldaa
open Go Go.RowKit Go.Fol
set_option linter.unusedVariables false
set_option linter.unusedSimpArgs false
section
variable {w0 w : World} {R : List Asrt}
theorem info_int : (Try.prog.info? 3).map (fun i => (i.zero, i.size, i.bytes)) = some (some (.int .i64 0), 1, 8) := by kernel_rfl
abbrev row_int (v : Value) (n : Nat) (xs : List Value) : Asrt := Asrt.row 3 1 v n xs
theorem app_int {s x : Value} {n m : Nat} {xs vs : List Value} (H : Owns w0 w (row_int s n xs :: R)) (hv : Reads w0 R 1 x m vs) (h1 : ∀ u ∈ vs, u.oneCell' = true) (h63 : n + m ≤ maxLen) (hb : (n + m) * 8 ≤ 140737488355328) :
    ∃ v' w', (∀ ty, (Builtin.append_ #[34, 34] ty #[s, x]).run Try.prog w = .ok v' w') ∧ Owns w0 w' (row_int v' (n + m) (xs ++ vs) :: R) := by
  obtain ⟨i0, hi, hz0, hz1, hz2⟩ := info_parts info_int
  exact Owns.app (ty := 0) Try.underlying34 hi hz0 hz1 hz2 rfl (by decide) H hv h1 h63 hb
theorem app0_int {x : Value} {m : Nat} {vs : List Value} (H : Owns w0 w R) (hv : Reads w0 R 1 x m vs) (h1 : ∀ u ∈ vs, u.oneCell' = true) (h63 : m ≤ maxLen) (hb : m * 8 ≤ 140737488355328) :
    ∃ v' w', (∀ ty, (Builtin.append_ #[34, 34] ty #[.slice none 0 0, x]).run Try.prog w = .ok v' w') ∧ Owns w0 w' (row_int v' m vs :: R) := by
  obtain ⟨v', w', h2, h3⟩ := app_int (H.rowNil 3 1) hv h1 (by omega) (by simpa using hb)
  exact ⟨v', w', h2, by simpa using h3⟩
end
end Go.Proofs.Ytaekfmbfejgldaa
