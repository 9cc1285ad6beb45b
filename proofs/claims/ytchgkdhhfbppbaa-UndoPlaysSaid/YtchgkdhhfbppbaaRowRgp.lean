/- Rows of foolscapref19.Group: append. -/
import Derived.Test.YtchgkdhhfbppbaaChecked
import Derived.Test.YtchgkdhhfbppbaaRangeO
namespace Go.Proofs.Ytchgkdhhfbppbaa
open Go Go.RowKit Go.Fol
set_option linter.unusedVariables false
set_option linter.unusedSimpArgs false
section
variable {w0 w : World} {R : List Asrt}
theorem info_rgp : (Try.prog.info? 32).map (fun i => (i.zero, i.size, i.bytes)) = some (some (.agg #[.int .i64 0, .int .i64 0, .int .i64 0, .int .i64 0, .slice none 0 0]), 5, 56) := by kernel_rfl
abbrev row_rgp (v : Value) (n : Nat) (xs : List Value) : Asrt := Asrt.row 32 5 v n xs
theorem app_rgp {s x : Value} {n m : Nat} {xs vs : List Value} (H : Owns w0 w (row_rgp s n xs :: R)) (hv : Reads w0 R 5 x m vs) (h1 : ∀ u ∈ vs, u.oneCell' = true) (h63 : n + m ≤ maxLen) (hb : (n + m) * 56 ≤ 140737488355328) :
    ∃ v' w', (∀ ty, (Builtin.append_ #[27, 27] ty #[s, x]).run Try.prog w = .ok v' w') ∧ Owns w0 w' (row_rgp v' (n + m) (xs ++ vs) :: R) := by
  obtain ⟨i0, hi, hz0, hz1, hz2⟩ := info_parts info_rgp
  exact Owns.app (ty := 0) Try.underlying27 hi hz0 hz1 hz2 rfl (by decide) H hv h1 h63 hb
theorem app0_rgp {x : Value} {m : Nat} {vs : List Value} (H : Owns w0 w R) (hv : Reads w0 R 5 x m vs) (h1 : ∀ u ∈ vs, u.oneCell' = true) (h63 : m ≤ maxLen) (hb : m * 56 ≤ 140737488355328) :
    ∃ v' w', (∀ ty, (Builtin.append_ #[27, 27] ty #[.slice none 0 0, x]).run Try.prog w = .ok v' w') ∧ Owns w0 w' (row_rgp v' m vs :: R) := by
  obtain ⟨v', w', h2, h3⟩ := app_rgp (H.rowNil 32 5) hv h1 (by omega) (by simpa using hb)
  exact ⟨v', w', h2, by simpa using h3⟩
end
end Go.Proofs.Ytchgkdhhfbppbaa
