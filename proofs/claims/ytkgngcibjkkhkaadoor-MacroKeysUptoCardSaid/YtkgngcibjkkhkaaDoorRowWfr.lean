/- Rows of foolscapref32.Frame: append. -/
import Derived.Test.YtkgngcibjkkhkaaDoorChecked
import Derived.Test.YtkgngcibjkkhkaaDoorRangeO
namespace Go.Proofs.YtkgngcibjkkhkaaDoor
open Go Go.RowKit Go.Fol
set_option linter.unusedVariables false
set_option linter.unusedSimpArgs false
section
variable {w0 w : World} {R : List Asrt}
theorem info_wfr : (Tryd.prog.info? 62).map (fun i => (i.zero, i.size, i.bytes)) = some (some (.agg #[.slice none 0 0, .int .i64 0, .int .i64 0]), 3, 40) := by kernel_rfl
abbrev row_wfr (v : Value) (n : Nat) (xs : List Value) : Asrt := Asrt.row 62 3 v n xs
theorem app_wfr {s x : Value} {n m : Nat} {xs vs : List Value} (H : Owns w0 w (row_wfr s n xs :: R)) (hv : Reads w0 R 3 x m vs) (h1 : ∀ u ∈ vs, u.oneCell' = true) (h63 : n + m ≤ maxLen) (hb : (n + m) * 40 ≤ 140737488355328) :
    ∃ v' w', (∀ ty, (Builtin.append_ #[45, 45] ty #[s, x]).run Tryd.prog w = .ok v' w') ∧ Owns w0 w' (row_wfr v' (n + m) (xs ++ vs) :: R) := by
  obtain ⟨i0, hi, hz0, hz1, hz2⟩ := info_parts info_wfr
  exact Owns.app (ty := 0) Tryd.underlying45 hi hz0 hz1 hz2 rfl (by decide) H hv h1 h63 hb
theorem app0_wfr {x : Value} {m : Nat} {vs : List Value} (H : Owns w0 w R) (hv : Reads w0 R 3 x m vs) (h1 : ∀ u ∈ vs, u.oneCell' = true) (h63 : m ≤ maxLen) (hb : m * 40 ≤ 140737488355328) :
    ∃ v' w', (∀ ty, (Builtin.append_ #[45, 45] ty #[.slice none 0 0, x]).run Tryd.prog w = .ok v' w') ∧ Owns w0 w' (row_wfr v' m vs :: R) := by
  obtain ⟨v', w', h2, h3⟩ := app_wfr (H.rowNil 62 3) hv h1 (by omega) (by simpa using hb)
  exact ⟨v', w', h2, by simpa using h3⟩
end
end Go.Proofs.YtkgngcibjkkhkaaDoor
