/- The vectors of foolscap/undo.group: At, Set, All, Back in words of what stands side by side. -/
import Derived.Test.YtchgkdhhfbppbaaVecOGrp
import Derived.RegionTactic
import Derived.OwnWalkIn
import Derived.TacticsInMore
import Derived.LoopNIn
import Derived.LoopIn
namespace Go.Proofs.Ytchgkdhhfbppbaa
open Go Go.RowKit Go.Fol
attribute [local go_sem ↓] run_min2 run_max2
attribute [local go_sem] Oper.semAt_some
set_option linter.unusedVariables false
set_option linter.unusedSimpArgs false
section
variable {w0 w : World} {R : List Asrt}
/-- the i-th of them. -/
def at_grp (xs : List Value) (i : Nat) (c0 : Int) (c1 : Int) (c2 : Int) (c3 : Int) (ca4 : Option Addr) (cn4 cc4 : Nat) : Prop := xs[i * 5]? = some (.int .i64 c0) ∧ xs[i * 5 + 1]? = some (.int .i64 c1) ∧ xs[i * 5 + 2]? = some (.int .i64 c2) ∧ xs[i * 5 + 3]? = some (.int .i64 c3) ∧ xs[i * 5 + 4]? = some (.slice ca4 cn4 cc4)
/-- the cells of all are read as such. -/
def are_grp (xs : List Value) (n : Nat) : Prop := ∀ i, i < n → ∃ c0 c1 c2 c3 ca4 cn4 cc4, at_grp xs i c0 c1 c2 c3 ca4 cn4 cc4
theorem o_at_grp {p n : Nat} {xs : List Value} (i : Nat) (c0 : Int) (c1 : Int) (c2 : Int) (c3 : Int) (ca4 : Option Addr) (cn4 cc4 : Nat) (H : Owns w0 w (vec_grp p n xs :: R)) (hi : i < n) (hx : at_grp xs i c0 c1 c2 c3 ca4 cn4 cc4) :
    Calls Try.prog 26 #[.pointer (some ⟨p, 0, none⟩), .int .i64 i] w (Ret (.tuple #[.agg #[.int .i64 c0, .int .i64 c1, .int .i64 c2, .int .i64 c3, .slice ca4 cn4 cc4], .bool true]) w0 (vec_grp p n xs :: R)) := by
  obtain ⟨hx0, hx1, hx2, hx3, hx4⟩ := hx
  obtain ⟨sv, h, _⟩ := H.vec
  have hn : decide (0 ≤ (i : Int) ∧ (i : Int) < n) = true := by simp; omega
  have h2 := h.alloc (.cells #[.int .i64 0, .int .i64 0, .int .i64 0, .int .i64 0, .slice none 0 0] 56)
  have hhas := has_grp p i sv n xs _ h2
  rw [hn] at hhas
  have hc := h2.cell
  rcases row_form h.row with ⟨_, rfl, _⟩ | ⟨g, cap, cur, rfl, hg, hnc, hm, _⟩
  · omega
  have e0 := h2.row.cells (g := g) rfl _ _ hx0
  have e1 := h2.row.cells (g := g) rfl _ _ hx1
  have e2 := h2.row.cells (g := g) rfl _ _ hx2
  have e3 := h2.row.cells (g := g) rfl _ _ hx3
  have e4 := h2.row.cells (g := g) rfl _ _ hx4
  rw [Addr.add_lit, Nat.zero_add] at e0 e1 e2 e3 e4
  have H2 := Lib.hid H
  unfold maxLen at hm
  clear h h2 hg hn hx0 hx1 hx2 hx3 hx4 H
  go_enter Try.func26, Try.ntmps26
  go_wp2_with (go_at_call 31; refine hhas.mono ?_; rintro e w' ⟨rfl, rfl⟩)
  exact bodyPost_ret (v := .tuple #[.agg #[.int .i64 c0, .int .i64 c1, .int .i64 c2, .int .i64 c3, .slice ca4 cn4 cc4], .bool true]) (by simp [results, Try.results26, go_sem]) rfl ⟨rfl, H2.out.alloc0 _⟩
theorem o_at_out_grp {p n : Nat} {xs : List Value} (i : Int) (H : Owns w0 w (vec_grp p n xs :: R)) (h0 : ¬ (0 ≤ i ∧ i < n)) :
    Calls Try.prog 26 #[.pointer (some ⟨p, 0, none⟩), .int .i64 i] w (Ret (.tuple #[.agg #[.int .i64 0, .int .i64 0, .int .i64 0, .int .i64 0, .slice none 0 0], .bool false]) w0 (vec_grp p n xs :: R)) := by
  obtain ⟨sv, h, _⟩ := H.vec
  have hn : decide (0 ≤ i ∧ i < n) = false := by simpa using h0
  have h2 := h.alloc (.cells #[.int .i64 0, .int .i64 0, .int .i64 0, .int .i64 0, .slice none 0 0] 56)
  have hhas := has_grp p i sv n xs _ h2
  rw [hn] at hhas
  have H2 := Lib.hid H
  clear h h2 hn h0 H
  go_enter Try.func26, Try.ntmps26
  go_wp2_with (go_at_call 31; refine hhas.mono ?_; rintro e w' ⟨rfl, rfl⟩)
  exact bodyPost_ret (v := .tuple #[.agg #[.int .i64 0, .int .i64 0, .int .i64 0, .int .i64 0, .slice none 0 0], .bool false]) (by simp [results, Try.results26, go_sem]) rfl ⟨rfl, (H2.out.alloc0 _).alloc0 _⟩
end
end Go.Proofs.Ytchgkdhhfbppbaa
