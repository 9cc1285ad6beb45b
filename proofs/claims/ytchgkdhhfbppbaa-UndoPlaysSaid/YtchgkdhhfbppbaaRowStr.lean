/- Clones and appends of rows of string. -/
import Derived.Test.YtchgkdhhfbppbaaChecked
import Derived.Test.YtchgkdhhfbppbaaKit
import Derived.Test.YtchgkdhhfbppbaaCells
import Derived.Test.YtchgkdhhfbppbaaRangeO
import Derived.WalkSpells
namespace Go.Proofs.Ytchgkdhhfbppbaa
open Go Go.RowKit Go.Fol
attribute [local go_sem ↓] run_min2 run_max2
set_option linter.unusedVariables false
set_option linter.unusedSimpArgs false

theorem info_str : (Try.prog.info? 9).map (fun i => (i.zero, i.size, i.bytes)) = some (some (.string ⟨#[]⟩), 1, 16) := by kernel_rfl

theorem clone_str (v : Value) (n : Nat) (xs : List Value) (w : World) (hs : SrcV w 1 v n xs) (h1 : ∀ u ∈ xs, u.oneCell' = true) (hb : n * 16 ≤ 140737488355328) :
    Calls Try.prog 30 #[v] w (Cloned w 9 1 n xs) := by
  obtain ⟨i0, hi, hz0, hz1, hz2⟩ := info_parts info_str
  rcases hs with ⟨rfl, rfl, rfl⟩ | ⟨a, c, rfl, h2, h3, h4, h5⟩
  · have hnil := fun (w : World) => Lib.run_eql_slice_nil (P := Try.prog) w 47 9 none 0 0 0 0 Try.underlying47
    go_enter Try.func30, Try.ntmps30
    go_wp2_with fail
    go_ret
    exact ⟨_, rfl, World.ownsRow_nil _ _ _ _, Chg.refl _ _, fun b hb => by cases hb⟩
  · have hm : n ≤ maxLen := Nat.le_trans h2 h3
    unfold maxLen at h3
    have hnil := fun (w : World) => Lib.run_eql_slice_nil (P := Try.prog) w 47 9 (some a) n c 0 0 Try.underlying47
    go_enter Try.func30, Try.ntmps30
    go_wp2_with (at_builtin; refine wpList_append_own _ rfl _ _ 47 rfl w.heap.size 9 i0 (.string ⟨#[]⟩) 1 16 Try.underlying47 hi hz0 hz1 hz2 rfl (by decide) _ 0 [] rfl (World.ownsRow_made w #[] 0 (Nat.le_refl _) (Nat.zero_le _) rfl) a n c xs rfl h4 ?c1 h1 ?c2 ?c3 ?c4 ?_)
    case c1 => exact fun j u hj => (Chg.cell ((Chg.refl [] w).alloc _) (h5 j u hj) (by simp))
    case c2 => simpa using hm
    case c3 => simpa using hb
    case c4 => simp
    intro v' w1 hown hgrow _
    go_wp2_with fail
    go_ret
    obtain ⟨hr, hnew⟩ := row_base hown
    refine ⟨_, rfl, by simpa using hr, ((Chg.refl [] w).alloc _).grown hgrow (fun k hk h => ?_), hnew⟩
    cases hk
    exact absurd h (Nat.lt_irrefl _)

section
variable {w0 w : World} {R : List Asrt}
abbrev row_str (v : Value) (n : Nat) (xs : List Value) : Asrt := Asrt.row 9 1 v n xs
theorem app_str {s x : Value} {n m : Nat} {xs vs : List Value} (H : Owns w0 w (row_str s n xs :: R)) (hv : Reads w0 R 1 x m vs) (h1 : ∀ u ∈ vs, u.oneCell' = true) (h63 : n + m ≤ maxLen) (hb : (n + m) * 16 ≤ 140737488355328) :
    ∃ v' w', (∀ ty, (Builtin.append_ #[47, 47] ty #[s, x]).run Try.prog w = .ok v' w') ∧ Owns w0 w' (row_str v' (n + m) (xs ++ vs) :: R) := by
  obtain ⟨i0, hi, hz0, hz1, hz2⟩ := info_parts info_str
  exact Owns.app (ty := 0) Try.underlying47 hi hz0 hz1 hz2 rfl (by decide) H hv h1 h63 hb
theorem app0_str {x : Value} {m : Nat} {vs : List Value} (H : Owns w0 w R) (hv : Reads w0 R 1 x m vs) (h1 : ∀ u ∈ vs, u.oneCell' = true) (h63 : m ≤ maxLen) (hb : m * 16 ≤ 140737488355328) :
    ∃ v' w', (∀ ty, (Builtin.append_ #[47, 47] ty #[.slice none 0 0, x]).run Try.prog w = .ok v' w') ∧ Owns w0 w' (row_str v' m vs :: R) := by
  obtain ⟨v', w', h2, h3⟩ := app_str (H.rowNil 9 1) hv h1 (by omega) (by simpa using hb)
  exact ⟨v', w', h2, by simpa using h3⟩
theorem o_clone_str (v : Value) (n : Nat) (xs : List Value) (H : Owns w0 w R) (hs : Reads w0 R 1 v n xs) (h1 : ∀ u ∈ xs, u.oneCell' = true) (hb : n * 16 ≤ 140737488355328) :
    Calls Try.prog 30 #[v] w (RetX (fun v : Value => v) w0 (fun v => row_str v n xs :: R)) :=
  (clone_str v n xs w (hs w H) h1 hb).mono fun e w' h => H.cloned h
end
end Go.Proofs.Ytchgkdhhfbppbaa
