/- The vectors of foolscap/api.Pos: what each of their functions, and of package slices what they call, leaves in memory. -/
import Derived.Test.YtaekfmbfejgldaaChecked
import Derived.Test.YtaekfmbfejgldaaKit
import Derived.Test.YtaekfmbfejgldaaCells
import Derived.WalkSpells
namespace Go.Proofs.Ytaekfmbfejgldaa
open Go Go.RowKit Go.Fol
attribute [local go_sem ↓] run_min2 run_max2
set_option linter.unusedVariables false
set_option linter.unusedSimpArgs false

theorem info_pos : (Try.prog.info? 29).map (fun i => (i.zero, i.size, i.bytes)) = some (some (.agg #[.int .i64 0, .int .i64 0]), 2, 16) := by kernel_rfl

theorem clone_pos (v : Value) (n : Nat) (xs : List Value) (w : World) (hs : SrcV w 2 v n xs) (h1 : ∀ u ∈ xs, u.oneCell' = true) (hb : n * 16 ≤ 140737488355328) :
    Calls Try.prog 30 #[v] w (Cloned w 29 2 n xs) := by
  obtain ⟨i0, hi, hz0, hz1, hz2⟩ := info_parts info_pos
  rcases hs with ⟨rfl, rfl, rfl⟩ | ⟨a, c, rfl, h2, h3, h4, h5⟩
  · have hnil := fun (w : World) => Lib.run_eql_slice_nil (P := Try.prog) w 35 29 none 0 0 0 0 Try.underlying35
    go_enter Try.func30, Try.ntmps30
    go_wp2_with fail
    go_ret
    exact ⟨_, rfl, World.ownsRow_nil _ _ _ _, Chg.refl _ _, fun b hb => by cases hb⟩
  · have hm : n ≤ maxLen := Nat.le_trans h2 h3
    unfold maxLen at h3
    have hnil := fun (w : World) => Lib.run_eql_slice_nil (P := Try.prog) w 35 29 (some a) n c 0 0 Try.underlying35
    go_enter Try.func30, Try.ntmps30
    go_wp2_with (at_builtin; refine wpList_append_own _ rfl _ _ 35 rfl w.heap.size 29 i0 (.agg #[.int .i64 0, .int .i64 0]) 2 16 Try.underlying35 hi hz0 hz1 hz2 rfl (by decide) _ 0 [] rfl (World.ownsRow_made w #[] 0 (Nat.le_refl _) (Nat.zero_le _) rfl) a n c xs rfl h4 ?c1 h1 ?c2 ?c3 ?c4 ?_)
    case c1 => exact fun j u hj => (Chg.cell ((Chg.refl [] w).alloc _) (h5 j u hj) (by simp))
    case c2 => simpa using hm
    case c3 => simpa using hb
    case c4 => simp
    intro v' w1 hown hgrow _
    go_wp2_with fail
    go_ret
    obtain ⟨hr, hnew⟩ := row_base hown
    refine ⟨_, rfl, by simpa using hr, ((Chg.refl [] w).alloc _).grown hgrow (fun k hk h => ?_), hnew⟩
    cases hk
    exact absurd h (Nat.lt_irrefl _)

theorem new_pos (v : Value) (n : Nat) (xs : List Value) (w : World) (hs : SrcV w 2 v n xs) (h1 : ∀ u ∈ xs, u.oneCell' = true) (hb : n * 16 ≤ 140737488355328) :
    Calls Try.prog 18 #[v] w (NewVec w 65 29 2 n xs) := by
  obtain ⟨a, c, rfl⟩ := hs.form
  go_enter Try.func18, Try.ntmps18
  go_wp2_with (go_at_call 30; refine (clone_pos _ _ xs _ hs h1 hb).mono ?_; rintro e w' ⟨v', rfl, hrow, hchg, hnew⟩; obtain ⟨g, c', rfl⟩ := row_slice hrow)
  go_ret
  refine ⟨w'.heap.size, _, rfl, ⟨heap_alloc_new _ _, row_keep hrow ((Chg.refl [] w').alloc _) (fun _ _ h => by cases h), ?_⟩, hchg.alloc _, ?_⟩
  · intro e
    exact Nat.lt_irrefl _ (row_lt hrow e)
  · intro b hb
    simp only [vfoot, List.mem_cons, Option.mem_toList] at hb
    rcases hb with rfl | hb
    · exact hchg.size
    · exact hnew b hb

theorem len_pos (p : Nat) (sv : Value) (n : Nat) (xs : List Value) (w : World) (h : VecAt w 65 29 2 p sv n xs) :
    Calls Try.prog 22 #[.pointer (some ⟨p, 0, none⟩)] w fun e w' => e = .returned (.int .i64 n) ∧ w = w' := by
  have hc := h.cell
  obtain ⟨a, c, rfl⟩ := row_slice h.row
  go_enter Try.func22, Try.ntmps22
  go_wp2_with fail
  go_ret
  exact ⟨rfl, rfl⟩

theorem has_pos (p : Nat) (i : Int) (sv : Value) (n : Nat) (xs : List Value) (w : World) (h : VecAt w 65 29 2 p sv n xs) :
    Calls Try.prog 33 #[.pointer (some ⟨p, 0, none⟩), .int .i64 i] w fun e w' => e = .returned (.bool (decide (0 ≤ i ∧ i < n))) ∧ w = w' := by
  have hc := h.cell
  obtain ⟨a, c, rfl⟩ := row_slice h.row
  clear h
  by_cases h0 : 0 ≤ i
  · by_cases h1 : i < n
    all_goals
      go_enter Try.func33, Try.ntmps33
      go_wp2_with fail
      go_ret
      exact ⟨by simp [h0, h1], rfl⟩
  · go_enter Try.func33, Try.ntmps33
    go_wp2_with fail
    go_ret
    exact ⟨by simp; omega, rfl⟩

end Go.Proofs.Ytaekfmbfejgldaa
