/- Rows of string: append. -/
import Derived.Test.YtcdoomlagmddcaaGreatDoorChecked
import Derived.Test.YtcdoomlagmddcaaGreatDoorKa
namespace Go.Proofs.YtcdoomlagmddcaaGreatDoor
open Go Go.RowKit Go.Fol
set_option linter.unusedVariables false
set_option linter.unusedSimpArgs false
section
variable {w0 w : World} {R : List Asrt}
theorem info_str : (Tryz.prog.info? 9).map (fun i => (i.zero, i.size, i.bytes)) = some (some (.string ⟨#[]⟩), 1, 16) := by kernel_rfl
abbrev row_str (v : Value) (n : Nat) (xs : List Value) : Asrt := Asrt.row 9 1 v n xs
theorem app_str {s x : Value} {n m : Nat} {xs vs : List Value} (H : Owns w0 w (row_str s n xs :: R)) (hv : Reads w0 R 1 x m vs) (h1 : ∀ u ∈ vs, u.oneCell' = true) (h63 : n + m ≤ maxLen) (hb : (n + m) * 16 ≤ 140737488355328) :
    ∃ v' w', (∀ ty, (Builtin.append_ #[22, 22] ty #[s, x]).run Tryz.prog w = .ok v' w') ∧ Owns w0 w' (row_str v' (n + m) (xs ++ vs) :: R) := by
  obtain ⟨i0, hi, hz0, hz1, hz2⟩ := info_parts info_str
  exact Owns.app (ty := 0) Tryz.underlying22 hi hz0 hz1 hz2 rfl (by decide) H hv h1 h63 hb
theorem app0_str {x : Value} {m : Nat} {vs : List Value} (H : Owns w0 w R) (hv : Reads w0 R 1 x m vs) (h1 : ∀ u ∈ vs, u.oneCell' = true) (h63 : m ≤ maxLen) (hb : m * 16 ≤ 140737488355328) :
    ∃ v' w', (∀ ty, (Builtin.append_ #[22, 22] ty #[.slice none 0 0, x]).run Tryz.prog w = .ok v' w') ∧ Owns w0 w' (row_str v' m vs :: R) := by
  obtain ⟨v', w', h2, h3⟩ := app_str (H.rowNil 9 1) hv h1 (by omega) (by simpa using hb)
  exact ⟨v', w', h2, by simpa using h3⟩
end
end Go.Proofs.YtcdoomlagmddcaaGreatDoor
