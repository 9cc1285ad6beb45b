/- The vectors of int (one cell an element): At, Set. -/
import Derived.Test.YtbddehfcamgfhaaVecInt
namespace Go.Proofs.Ytbddehfcamgfhaa
open Go Go.RowKit Go.Fol
attribute [local go_sem ↓] run_min2 run_max2
set_option linter.unusedVariables false
set_option linter.unusedSimpArgs false

theorem at_in_int (p : Nat) (i : Int) (x : Value) (sv : Value) (n : Nat) (xs : List Value) (w : World) (h : VecAt w 56 3 1 p sv n xs) (h0 : 0 ≤ i) (h1 : i < n) (hx : xs[i.toNat]? = some x) :
    Calls Try.prog 20 #[.pointer (some ⟨p, 0, none⟩), .int .i64 i] w fun e w' => e = .returned (.tuple #[x, .bool true]) ∧ w = w' := by
  obtain ⟨j, rfl⟩ := Int.eq_ofNat_of_zero_le h0
  simp only [Int.toNat_natCast] at hx
  have hn : decide (0 ≤ (j : Int) ∧ (j : Int) < n) = true := by simp; omega
  have hhas := has_int p j sv n xs w h
  rw [hn] at hhas
  have hc := h.cell
  rcases row_form h.row with ⟨_, rfl, _⟩ | ⟨g, cap, cur, rfl, hg, hnc, hm, _⟩
  · omega
  have hcell : w.cell? ⟨g, j, none⟩ = some x := by have := h.row.cells (g := g) rfl j x hx; rwa [Addr.add_lit, Nat.zero_add] at this
  have hj : j < n := by omega
  unfold maxLen at hm
  clear h hg hn hx h0 h1
  go_enter Try.func20, Try.ntmps20
  go_wp2_with (go_at_call 27; refine hhas.mono ?_; rintro e w' ⟨rfl, rfl⟩)
  go_ret2
  exact ⟨rfl, rfl⟩

theorem at_out_int (p : Nat) (i : Int) (sv : Value) (n : Nat) (xs : List Value) (w : World) (h : VecAt w 56 3 1 p sv n xs) (h0 : ¬ (0 ≤ i ∧ i < n)) :
    Calls Try.prog 20 #[.pointer (some ⟨p, 0, none⟩), .int .i64 i] w fun e w' => e = .returned (.tuple #[(.int .i64 0), .bool false]) ∧ w = w' := by
  have hn : decide (0 ≤ i ∧ i < n) = false := by simpa using h0
  have hhas := has_int p i sv n xs w h
  rw [hn] at hhas
  clear h hn h0
  go_enter Try.func20, Try.ntmps20
  go_wp2_with (go_at_call 27; refine hhas.mono ?_; rintro e w' ⟨rfl, rfl⟩)
  go_ret2
  exact ⟨rfl, rfl⟩
end Go.Proofs.Ytbddehfcamgfhaa
