/- The vectors of int (one cell an element): Set. -/
import Derived.Test.YtbddehfcamgfhaaVecInt
namespace Go.Proofs.Ytbddehfcamgfhaa
open Go Go.RowKit Go.Fol
attribute [local go_sem ↓] run_min2 run_max2
set_option linter.unusedVariables false
set_option linter.unusedSimpArgs false

theorem set_in_int (p : Nat) (i : Int) (x : Value) (h1x : x.oneCell' = true) (sv : Value) (n : Nat) (xs : List Value) (w : World) (h : VecAt w 56 3 1 p sv n xs) (h0 : 0 ≤ i) (h1 : i < n) :
    Calls Try.prog 29 #[.pointer (some ⟨p, 0, none⟩), .int .i64 i, x] w (VecBack w 56 3 1 p n (xs.set i.toNat x) sv (.bool true)) := by
  obtain ⟨j, rfl⟩ := Int.eq_ofNat_of_zero_le h0
  simp only [Int.toNat_natCast]
  have hn : decide (0 ≤ (j : Int) ∧ (j : Int) < n) = true := by simp; omega
  have hhas := has_int p j sv n xs w h
  rw [hn] at hhas
  have hc := h.cell
  have h' := h
  rcases row_form h.row with ⟨_, rfl, _⟩ | ⟨g, cap, cur, rfl, hg, hnc, hm, hcs, htk, hxl⟩
  · omega
  have hj : j < n := by omega
  obtain ⟨y, hcell⟩ : ∃ y, w.cell? ⟨g, j, none⟩ = some y := ⟨xs[j]'(by omega), by have := h.row.cells (g := g) rfl j _ (List.getElem?_eq_getElem (by omega)); rwa [Addr.add_lit, Nat.zero_add] at this⟩
  have hfz : w.frozen? ⟨g, j, none⟩ = false := frozen_of_heap hg j
  have hst := run_storeCells_one (P := Try.prog) h1x hcell hfz
  have hm' := hm
  unfold maxLen at hm
  have Hend : (VecBack w 56 3 1 p n (xs.set j x) (.slice (some ⟨g, 0, none⟩) n cap) (.bool true) (.returned (.bool true)) (w.setCell ⟨g, j, none⟩ x)) := by
    have hpg : p ≠ g := fun e => h'.ne (by rw [e]; rfl)
    refine ⟨_, rfl, ⟨?_, ?_, h'.ne⟩, ⟨(Chg.refl _ w).setCell (fun _ => by simp [vfoot, Value.ownBlock]) x, fun b hb => .inl hb⟩⟩
    · rw [Below.heap_setCell _ _ _ _ hpg]; exact h'.obj
    · refine ⟨by simpa using hxl, .inr ⟨g, cap, _, rfl, Nat.zero_le _, heap_set_same hg x, hnc, hm', by simpa using hcs, ?_⟩⟩
      simp only [Array.toList_setIfInBounds]
      rw [← htk, List.take_set]
  clear h hg hn h0 h1 h' htk hcs hxl hm'
  go_enter Try.func29, Try.ntmps29
  go_wp2_with (go_at_call 27; refine hhas.mono ?_; rintro e w' ⟨rfl, rfl⟩)
  simp only [hst, Result.andThen_ok]
  go_wp2_with fail
  go_ret
  exact Hend

theorem set_out_int (p : Nat) (i : Int) (x : Value) (sv : Value) (n : Nat) (xs : List Value) (w : World) (h : VecAt w 56 3 1 p sv n xs) (h0 : ¬ (0 ≤ i ∧ i < n)) :
    Calls Try.prog 29 #[.pointer (some ⟨p, 0, none⟩), .int .i64 i, x] w fun e w' => e = .returned (.bool false) ∧ w = w' := by
  have hn : decide (0 ≤ i ∧ i < n) = false := by simpa using h0
  have hhas := has_int p i sv n xs w h
  rw [hn] at hhas
  clear h hn h0
  go_enter Try.func29, Try.ntmps29
  go_wp2_with (go_at_call 27; refine hhas.mono ?_; rintro e w' ⟨rfl, rfl⟩)
  go_ret
  exact ⟨rfl, rfl⟩
end Go.Proofs.Ytbddehfcamgfhaa
