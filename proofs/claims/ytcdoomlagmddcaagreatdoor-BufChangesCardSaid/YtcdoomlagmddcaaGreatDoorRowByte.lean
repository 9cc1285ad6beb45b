/- Rows of uint8: append. -/
import Derived.Test.YtcdoomlagmddcaaGreatDoorChecked
import Derived.Test.YtcdoomlagmddcaaGreatDoorKa
namespace Go.Proofs.YtcdoomlagmddcaaGreatDoor
open Go Go.RowKit Go.Fol
set_option linter.unusedVariables false
set_option linter.unusedSimpArgs false
section
variable {w0 w : World} {R : List Asrt}
theorem info_byte : (Tryz.prog.info? 5).map (fun i => (i.zero, i.size, i.bytes)) = some (some (.int .u8 0), 1, 1) := by kernel_rfl
abbrev row_byte (v : Value) (n : Nat) (xs : List Value) : Asrt := Asrt.row 5 1 v n xs
theorem app_byte {s x : Value} {n m : Nat} {xs vs : List Value} (H : Owns w0 w (row_byte s n xs :: R)) (hv : Reads w0 R 1 x m vs) (h1 : ∀ u ∈ vs, u.oneCell' = true) (h63 : n + m ≤ maxLen) (hb : (n + m) * 1 ≤ 140737488355328) :
    ∃ v' w', (∀ ty, (Builtin.append_ #[37, 37] ty #[s, x]).run Tryz.prog w = .ok v' w') ∧ Owns w0 w' (row_byte v' (n + m) (xs ++ vs) :: R) := by
  obtain ⟨i0, hi, hz0, hz1, hz2⟩ := info_parts info_byte
  exact Owns.app (ty := 0) Tryz.underlying37 hi hz0 hz1 hz2 rfl (by decide) H hv h1 h63 hb
theorem app0_byte {x : Value} {m : Nat} {vs : List Value} (H : Owns w0 w R) (hv : Reads w0 R 1 x m vs) (h1 : ∀ u ∈ vs, u.oneCell' = true) (h63 : m ≤ maxLen) (hb : m * 1 ≤ 140737488355328) :
    ∃ v' w', (∀ ty, (Builtin.append_ #[37, 37] ty #[.slice none 0 0, x]).run Tryz.prog w = .ok v' w') ∧ Owns w0 w' (row_byte v' m vs :: R) := by
  obtain ⟨v', w', h2, h3⟩ := app_byte (H.rowNil 5 1) hv h1 (by omega) (by simpa using hb)
  exact ⟨v', w', h2, by simpa using h3⟩
end
end Go.Proofs.YtcdoomlagmddcaaGreatDoor
