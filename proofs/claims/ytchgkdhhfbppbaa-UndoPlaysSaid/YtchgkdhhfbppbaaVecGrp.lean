/- The vectors of foolscap/undo.group: what each of their functions, and of package slices what they call, leaves in memory. -/
import Derived.Test.YtchgkdhhfbppbaaChecked
import Derived.Test.YtchgkdhhfbppbaaKit
import Derived.Test.YtchgkdhhfbppbaaCells
import Derived.WalkSpells
namespace Go.Proofs.Ytchgkdhhfbppbaa
open Go Go.RowKit Go.Fol
attribute [local go_sem ↓] run_min2 run_max2
set_option linter.unusedVariables false
set_option linter.unusedSimpArgs false

theorem info_grp : (Try.prog.info? 56).map (fun i => (i.zero, i.size, i.bytes)) = some (some (.agg #[.int .i64 0, .int .i64 0, .int .i64 0, .int .i64 0, .slice none 0 0]), 5, 56) := by kernel_rfl

theorem clone_grp (v : Value) (n : Nat) (xs : List Value) (w : World) (hs : SrcV w 5 v n xs) (h1 : ∀ u ∈ xs, u.oneCell' = true) (hb : n * 56 ≤ 140737488355328) :
    Calls Try.prog 29 #[v] w (Cloned w 56 5 n xs) := by
  obtain ⟨i0, hi, hz0, hz1, hz2⟩ := info_parts info_grp
  rcases hs with ⟨rfl, rfl, rfl⟩ | ⟨a, c, rfl, h2, h3, h4, h5⟩
  · have hnil := fun (w : World) => Lib.run_eql_slice_nil (P := Try.prog) w 60 56 none 0 0 0 0 Try.underlying60
    go_enter Try.func29, Try.ntmps29
    go_wp2_with fail
    go_ret
    exact ⟨_, rfl, World.ownsRow_nil _ _ _ _, Chg.refl _ _, fun b hb => by cases hb⟩
  · have hm : n ≤ maxLen := Nat.le_trans h2 h3
    unfold maxLen at h3
    have hnil := fun (w : World) => Lib.run_eql_slice_nil (P := Try.prog) w 60 56 (some a) n c 0 0 Try.underlying60
    go_enter Try.func29, Try.ntmps29
    go_wp2_with (at_builtin; refine wpList_append_own _ rfl _ _ 60 rfl w.heap.size 56 i0 (.agg #[.int .i64 0, .int .i64 0, .int .i64 0, .int .i64 0, .slice none 0 0]) 5 56 Try.underlying60 hi hz0 hz1 hz2 rfl (by decide) _ 0 [] rfl (World.ownsRow_made w #[] 0 (Nat.le_refl _) (Nat.zero_le _) rfl) a n c xs rfl h4 ?c1 h1 ?c2 ?c3 ?c4 ?_)
    case c1 => exact fun j u hj => (Chg.cell ((Chg.refl [] w).alloc _) (h5 j u hj) (by simp))
    case c2 => simpa using hm
    case c3 => simpa using hb
    case c4 => simp
    intro v' w1 hown hgrow _
    go_wp2_with fail
    go_ret
    obtain ⟨hr, hnew⟩ := row_base hown
    refine ⟨_, rfl, by simpa using hr, ((Chg.refl [] w).alloc _).grown hgrow (fun k hk h => ?_), hnew⟩
    cases hk
    exact absurd h (Nat.lt_irrefl _)

theorem new_grp (v : Value) (n : Nat) (xs : List Value) (w : World) (hs : SrcV w 5 v n xs) (h1 : ∀ u ∈ xs, u.oneCell' = true) (hb : n * 56 ≤ 140737488355328) :
    Calls Try.prog 21 #[v] w (NewVec w 70 56 5 n xs) := by
  obtain ⟨a, c, rfl⟩ := hs.form
  go_enter Try.func21, Try.ntmps21
  go_wp2_with (go_at_call 29; refine (clone_grp _ _ xs _ hs h1 hb).mono ?_; rintro e w' ⟨v', rfl, hrow, hchg, hnew⟩; obtain ⟨g, c', rfl⟩ := row_slice hrow)
  go_ret
  refine ⟨w'.heap.size, _, rfl, ⟨heap_alloc_new _ _, row_keep hrow ((Chg.refl [] w').alloc _) (fun _ _ h => by cases h), ?_⟩, hchg.alloc _, ?_⟩
  · intro e
    exact Nat.lt_irrefl _ (row_lt hrow e)
  · intro b hb
    simp only [vfoot, List.mem_cons, Option.mem_toList] at hb
    rcases hb with rfl | hb
    · exact hchg.size
    · exact hnew b hb

theorem len_grp (p : Nat) (sv : Value) (n : Nat) (xs : List Value) (w : World) (h : VecAt w 70 56 5 p sv n xs) :
    Calls Try.prog 24 #[.pointer (some ⟨p, 0, none⟩)] w fun e w' => e = .returned (.int .i64 n) ∧ w = w' := by
  have hc := h.cell
  obtain ⟨a, c, rfl⟩ := row_slice h.row
  go_enter Try.func24, Try.ntmps24
  go_wp2_with fail
  go_ret
  exact ⟨rfl, rfl⟩

theorem has_grp (p : Nat) (i : Int) (sv : Value) (n : Nat) (xs : List Value) (w : World) (h : VecAt w 70 56 5 p sv n xs) :
    Calls Try.prog 31 #[.pointer (some ⟨p, 0, none⟩), .int .i64 i] w fun e w' => e = .returned (.bool (decide (0 ≤ i ∧ i < n))) ∧ w = w' := by
  have hc := h.cell
  obtain ⟨a, c, rfl⟩ := row_slice h.row
  clear h
  by_cases h0 : 0 ≤ i
  · by_cases h1 : i < n
    all_goals
      go_enter Try.func31, Try.ntmps31
      go_wp2_with fail
      go_ret
      exact ⟨by simp [h0, h1], rfl⟩
  · go_enter Try.func31, Try.ntmps31
    go_wp2_with fail
    go_ret
    exact ⟨by simp; omega, rfl⟩

end Go.Proofs.Ytchgkdhhfbppbaa
