/- The vectors of foolscap/undo.group: slices.Insert, roads one and two (nothing to insert; at the end). -/
import Derived.Test.YtchgkdhhfbppbaaVecGrp
namespace Go.Proofs.Ytchgkdhhfbppbaa
open Go Go.RowKit Go.Fol
attribute [local go_sem ↓] run_min2 run_max2
set_option linter.unusedVariables false
set_option linter.unusedSimpArgs false

/-- slices.Insert of nothing. -/
theorem sinsert_none_grp (s : Value) (n : Nat) (i : Int) (xs vs : List Value) (v : Value) (w : World) (hs : w.ownsRow 0 56 5 s n xs) (h0 : 0 ≤ i) (hin : i ≤ n) (hv : SrcV w 5 v 0 vs) :
    Calls Try.prog 33 #[s, .int .i64 i, v] w fun e w' => e = .returned s ∧ w = w' := by
  obtain ⟨j, rfl⟩ := Int.eq_ofNat_of_zero_le h0
  obtain ⟨va, vc, rfl⟩ := hv.form
  rcases row_form hs with ⟨rfl, rfl, _⟩ | ⟨g, cap, cur, rfl, hg, hnc, hm, _⟩
  · obtain rfl : j = 0 := by omega
    go_enter Try.func33, Try.ntmps33
    go_wp2_with fail
    go_ret
    exact ⟨rfl, rfl⟩
  · unfold maxLen at hm
    by_cases hc : cap = j
    all_goals
      go_enter Try.func33, Try.ntmps33
      go_wp2_with fail
      go_ret
      exact ⟨rfl, rfl⟩

/-- slices.Insert at the end. -/
theorem sinsert_end_grp (s : Value) (n m : Nat) (xs vs : List Value) (va : Addr) (vc : Nat) (w : World) (hs : w.ownsRow 0 56 5 s n xs) (hm0 : 0 < m)
    (hvl : vs.length = m * 5) (hv : ∀ j u, vs[j]? = some u → w.cell? (va.add j) = some u) (h1 : ∀ u ∈ vs, u.oneCell' = true) (hb : (n + m) * 56 ≤ 140737488355328) (hmx : n + m ≤ maxLen) :
    Calls Try.prog 33 #[s, .int .i64 n, .slice (some va) m vc] w (RowBack w 56 5 (n + m) (xs ++ vs) s) := by
  obtain ⟨i0, hi, hz0, hz1, hz2⟩ := info_parts info_grp
  have hz : ¬ ((m : Int) = 0) := by omega
  have hrow := hs
  have hmx' := hmx
  unfold maxLen at hmx'
  rcases row_form hs with ⟨rfl, rfl, rfl⟩ | ⟨g, cap, cur, rfl, hg, hnc, hm, _⟩
  · clear hs
    go_enter Try.func33, Try.ntmps33
    go_wp2_with (at_builtin; refine wpList_append_row rfl _ _ 60 rfl 56 i0 (.agg #[.int .i64 0, .int .i64 0, .int .i64 0, .int .i64 0, .slice none 0 0]) 5 56 Try.underlying60 hi hz0 hz1 hz2 rfl (by decide) _ 0 [] rfl hrow va m vc vs rfl hvl hv h1 ?c1 ?c2 ?_)
    case c1 => exact hmx
    case c2 => exact hb
    intro v' w1 hown hchg hnew
    go_wp2_with fail
    go_ret
    exact ⟨v', rfl, by simpa using hown, hchg, hnew⟩
  · clear hs hg
    unfold maxLen at hm
    by_cases hc : cap = n
    all_goals
      go_enter Try.func33, Try.ntmps33
      go_wp2_with (at_builtin; refine wpList_append_row rfl _ _ 60 rfl 56 i0 (.agg #[.int .i64 0, .int .i64 0, .int .i64 0, .int .i64 0, .slice none 0 0]) 5 56 Try.underlying60 hi hz0 hz1 hz2 rfl (by decide) _ _ xs rfl hrow va m vc vs rfl hvl hv h1 hmx hb ?_)
      intro v' w1 hown hchg hnew
      go_wp2_with fail
      go_ret
      exact ⟨_, rfl, hown, hchg, hnew⟩
end Go.Proofs.Ytchgkdhhfbppbaa
