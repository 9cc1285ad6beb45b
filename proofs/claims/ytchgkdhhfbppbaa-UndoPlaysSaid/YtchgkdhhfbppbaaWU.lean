/- Plain: what groups are kept. -/
import Derived.Test.YtchgkdhhfbppbaaUN
namespace Go.Proofs.Ytchgkdhhfbppbaa
open Go Go.RowKit Go.Fol
set_option linter.unusedVariables false
set_option linter.unusedSimpArgs false
theorem comL_map {α β : Type} (f : α → β) (G : List α) (d : Nat) (g : α) : (comL G d g).map f = comL (G.map f) d (f g) := by
  simp [comL, List.map_drop, List.map_take]
theorem comL_len {α : Type} (G : List α) (d : Nat) (g : α) (hd : d ≤ G.length) : (comL G d g).length = min 16 (d + 1) := by
  simp only [comL, List.length_drop, List.length_append, List.length_take, List.length_singleton]
  omega
/-- The latest sixteen of a list. -/
def last16 {α : Type} (X : List α) : List α := X.drop (X.length - 16)
theorem last16_len {α : Type} (X : List α) : (last16 X).length = min X.length 16 := by simp [last16]; omega
theorem last16_snoc {α : Type} (X : List α) (y : α) : comL (last16 X) (last16 X).length y = last16 (X ++ [y]) := by
  rw [comL, List.take_of_length_le (Nat.le_refl _)]
  simp only [last16, List.length_append, List.length_singleton, List.length_drop]
  rw [← List.drop_append_of_le_length (by omega), List.drop_drop]
  congr 1
  omega
theorem last16_get {α : Type} (X : List α) {d : Nat} (hd : d < min X.length 16) : (last16 X)[d]? = X[X.length - min X.length 16 + d]? := by
  rw [last16, List.getElem?_drop]
  congr 1
  omega
/-- the group of number j. -/
def fD (j : Nat) : GD := (((j : Int), 0), ((j : Int), 1), [((j : Int), [], [⟨#[120]⟩])])
def gI (i : Nat) : List GD := last16 ((List.range i).map fD)
theorem gI_len (i : Nat) : (gI i).length = min i 16 := by simp [gI, last16_len]
theorem gI_step (i : Nat) : comL (gI i) (gI i).length (fD i) = gI (i + 1) := by
  rw [gI, last16_snoc, gI, List.range_succ, List.map_append]; rfl
theorem gI_get {i d : Nat} (hd : d < min i 16) : (gI i)[d]? = some (fD (i - min i 16 + d)) := by
  rw [gI, last16_get _ (by simpa using hd)]
  simp only [List.length_map, List.length_range]
  rw [List.getElem?_map, List.getElem?_range (by omega)]
  rfl
theorem gdat_get {G : List Gr} {X : List GD} (h : gdatL G = X) {d : Nat} {x : GD} (hx : X[d]? = some x) : ∃ g, G[d]? = some g ∧ g.dat = x := by
  rw [← h, List.getElem?_map] at hx
  cases hg : G[d]? with
  | none => rw [hg] at hx; cases hx
  | some g => rw [hg] at hx; exact ⟨g, rfl, by simpa using hx⟩
theorem ch_one {M : List Ch} {d : CD} (h : datL M = [d]) : ∃ c, M = [c] ∧ c.dat = d := by
  match M, h with
  | [c], h => exact ⟨c, rfl, by simpa using h⟩
section
variable {w0 w : World} {R : List Asrt}
theorem ChRd.lit1 {b b2 : Nat} {t1 t2 : TypeId} {x : Int} {s : ByteArray} (h : Asrt.obj b (.cells #[.int .i64 x, .slice none 0 0, .slice (some ⟨b2, 0, none⟩) 1 1] t1 (0, 0)) ∈ R) (h2 : Asrt.obj b2 (.cells #[.string s] t2 (0, 0)) ∈ R) :
    ChRd w0 R (.slice (some ⟨b, 0, none⟩) 1 1) [⟨x, none, 0, some ⟨b2, 0, none⟩, 1, [], [s]⟩] := by
  refine ⟨Reads.obj (k := 3) (n := 1) (c := 1) h (by decide) (by decide) (by simp), fun c hc => ?_, fun c hc => ?_⟩
  all_goals
    simp at hc
    subst hc
  · exact Reads.nil
  · exact Reads.obj (k := 1) (n := 1) (c := 1) h2 (by decide) (by decide) (by simp)
theorem ChRd.lit0 {b : Nat} {t1 : TypeId} {x : Int} (h : Asrt.obj b (.cells #[.int .i64 x, .slice none 0 0, .slice none 0 0] t1 (0, 0)) ∈ R) :
    ChRd w0 R (.slice (some ⟨b, 0, none⟩) 1 1) [⟨x, none, 0, none, 0, [], []⟩] := by
  refine ⟨Reads.obj (k := 3) (n := 1) (c := 1) h (by decide) (by decide) (by simp), fun c hc => ?_, fun c hc => ?_⟩
  all_goals
    simp at hc
    subst hc
  · exact Reads.nil
  · exact Reads.nil
/-- The one change of a row. -/
theorem row_cell {a : Option Addr} {cap : Nat} {c : Ch} (H : Owns w0 w (row_chg (.slice a 1 cap) 1 (chs [c]) :: R)) : ∃ b, a = some ⟨b, 0, none⟩ ∧ 1 ≤ cap ∧ w.cell? ⟨b, 0, none⟩ = some (.int .i64 c.at_) ∧ w.cell? ⟨b, 1, none⟩ = some c.ov ∧ w.cell? ⟨b, 2, none⟩ = some c.nv := by
  rcases row_form H.row with ⟨_, h, _⟩ | ⟨g, cap', cur, e, hg, hnc, _⟩
  · cases h
  · cases e
    have h := H.row
    have g0 := h.cells (g := g) rfl 0 _ (chs_get (L := [c]) (i := 0) rfl).1
    have g1 := h.cells (g := g) rfl 1 _ (chs_get (L := [c]) (i := 0) rfl).2.1
    have g2 := h.cells (g := g) rfl 2 _ (chs_get (L := [c]) (i := 0) rfl).2.2
    exact ⟨g, rfl, hnc, g0, g1, g2⟩
end
end Go.Proofs.Ytchgkdhhfbppbaa
