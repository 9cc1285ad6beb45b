/- Rows of macro.frame: append. -/
import Derived.Test.YtkgngcibjkkhkaaDoorChecked
import Derived.Test.YtkgngcibjkkhkaaDoorRangeO
namespace Go.Proofs.YtkgngcibjkkhkaaDoor
open Go Go.RowKit Go.Fol
set_option linter.unusedVariables false
set_option linter.unusedSimpArgs false
section
variable {w0 w : World} {R : List Asrt}
theorem info_frm : (Tryd.prog.info? 56).map (fun i => (i.zero, i.size, i.bytes)) = some (some (.agg #[.slice none 0 0, .int .i64 0, .int .i64 0]), 3, 40) := by kernel_rfl
abbrev row_frm (v : Value) (n : Nat) (xs : List Value) : Asrt := Asrt.row 56 3 v n xs
theorem app_frm {s x : Value} {n m : Nat} {xs vs : List Value} (H : Owns w0 w (row_frm s n xs :: R)) (hv : Reads w0 R 3 x m vs) (h1 : ∀ u ∈ vs, u.oneCell' = true) (h63 : n + m ≤ maxLen) (hb : (n + m) * 40 ≤ 140737488355328) :
    ∃ v' w', (∀ ty, (Builtin.append_ #[51, 51] ty #[s, x]).run Tryd.prog w = .ok v' w') ∧ Owns w0 w' (row_frm v' (n + m) (xs ++ vs) :: R) := by
  obtain ⟨i0, hi, hz0, hz1, hz2⟩ := info_parts info_frm
  exact Owns.app (ty := 0) Tryd.underlying51 hi hz0 hz1 hz2 rfl (by decide) H hv h1 h63 hb
theorem app0_frm {x : Value} {m : Nat} {vs : List Value} (H : Owns w0 w R) (hv : Reads w0 R 3 x m vs) (h1 : ∀ u ∈ vs, u.oneCell' = true) (h63 : m ≤ maxLen) (hb : m * 40 ≤ 140737488355328) :
    ∃ v' w', (∀ ty, (Builtin.append_ #[51, 51] ty #[.slice none 0 0, x]).run Tryd.prog w = .ok v' w') ∧ Owns w0 w' (row_frm v' m vs :: R) := by
  obtain ⟨v', w', h2, h3⟩ := app_frm (H.rowNil 56 3) hv h1 (by omega) (by simpa using hb)
  exact ⟨v', w', h2, by simpa using h3⟩
end
end Go.Proofs.YtkgngcibjkkhkaaDoor
