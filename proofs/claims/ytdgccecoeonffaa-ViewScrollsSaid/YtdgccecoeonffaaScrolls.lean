/- The windows of package view: the walks that the statements of layer 30 rest on. No condition beyond the bounds of Go's integers. -/
import Derived.Test.YtdgccecoeonffaaCalls
import Derived.Handy
namespace Go.Proofs.Ytdgccecoeonffaa
set_option linter.unusedVariables false
set_option linter.unusedSimpArgs false
open Go.ChangeShapes Go.WideShapes Go.ChangeAt Go.RowKit Go.Fol
attribute [local go_sem ↓] run_min2 run_max2

theorem vTo_bd (t c : Int) : 0 ≤ vTo t c ∧ vTo t c ≤ 1073741834 := by unfold vTo vFirst vNear; omega
theorem vScroll_bd (t l c : Int) : 0 ≤ vScroll t l c ∧ vScroll t l c ≤ 1073741824 := by unfold vScroll vFirst vNear; omega
/-- what a round of ViewScrolls asks. -/
theorem round_ok (t l c : Int) (h : 0 ≤ l) (h' : l < c) (h'' : c < 1073741824) :
    vFirst (vScroll t l c) c ≤ l ∧ l < vTo (vScroll t l c) c ∧ vTo (vScroll t l c) c - vFirst (vScroll t l c) c ≤ 10 ∧ vScroll (vScroll t l c) l c = vScroll t l c := by
  have e : vScroll t l c = max (min (min (max t 0) (c - 1)) l) (l - 9) := by unfold vScroll vFirst vNear; omega
  obtain ⟨s, hs⟩ : ∃ s, s = vScroll t l c := ⟨_, rfl⟩
  rw [← hs]; rw [e] at hs
  have e2 : vFirst s c = s := by unfold vFirst vNear; omega
  refine ⟨by omega, ?_, ?_, ?_⟩
  · unfold vTo; rw [e2]; unfold vNear; omega
  · unfold vTo; rw [e2]; unfold vNear; omega
  · unfold vScroll; rw [e2]; unfold vNear; omega

theorem tmod60 (n : Int) : -60 < n.tmod 60 ∧ n.tmod 60 < 60 := ⟨Int.lt_tmod_of_pos n (by decide), Int.tmod_lt_of_pos n (by decide)⟩

set_option maxHeartbeats 4000000 in
set_option maxRecDepth 100000 in
theorem scrolls_walk (a0 a1 a2 : Int) (h1 : -9223372036854775808 ≤ a0) (h2 : a0 ≤ 9223372036854775807) (h3 : -9223372036854775808 ≤ a1) (h4 : a1 ≤ 9223372036854775807) (h5 : -9223372036854775808 ≤ a2) (h6 : a2 ≤ 9223372036854775807) (w : World) :
    Calls Try.prog 3 #[.int .i64 a0, .int .i64 a1, .int .i64 a2] w fun e w' => e = .returned (.bool true) ∧ Below w.heap.size w w' := by
  obtain ⟨c0, hc0⟩ : ∃ c, c = a0.tmod 60 := ⟨_, rfl⟩
  obtain ⟨c1, hc1⟩ : ∃ c, c = a1.tmod 60 := ⟨_, rfl⟩
  obtain ⟨c2, hc2⟩ : ∃ c, c = a2.tmod 60 := ⟨_, rfl⟩
  have b1 := tmod60 a0
  have b2 := tmod60 a1
  have b3 := tmod60 a2
  rw [← hc0] at b1
  rw [← hc1] at b2
  rw [← hc2] at b3
  replace hc0 := hc0.symm
  replace hc1 := hc1.symm
  replace hc2 := hc2.symm
  go_enter Try.func3, Try.ntmps3
  go_wp2_with (first | (go_at_call 6; refine (known_any _).mono ?_; rintro e w' ⟨rfl, rfl⟩))
  have hB0 : Below w.heap.size w (w.alloc (.cells #[.int .i64 a0, .int .i64 a1, .int .i64 a2, .int .i64 c0, .int .i64 c1, .int .i64 c2] 23)) := (Below.refl _ _).alloc (Nat.le_refl _) _
  have hblk : (w.alloc (.cells #[.int .i64 a0, .int .i64 a1, .int .i64 a2, .int .i64 c0, .int .i64 c1, .int .i64 c2] 23)).heap[w.heap.size]? = some (.cells #[.int .i64 a0, .int .i64 a1, .int .i64 a2, .int .i64 c0, .int .i64 c1, .int .i64 c2] 23 (0, 0)) := heap_alloc_new _ _
  have hsz : w.heap.size < (w.alloc (.cells #[.int .i64 a0, .int .i64 a1, .int .i64 a2, .int .i64 c0, .int .i64 c1, .int .i64 c2] 23)).heap.size := by simp
  clear hc0 hc1 hc2
  generalize (w.alloc (.cells #[.int .i64 a0, .int .i64 a1, .int .i64 a2, .int .i64 c0, .int .i64 c1, .int .i64 c2] 23)) = W1 at *
  go_loopw [31] (fun i wr => ∃ k : Nat, k ≤ 2 ∧ i = .int .i64 k ∧ Below (w.heap.size + 1) W1 wr) (fun i _ => 2 - (intOf i).toNat)
  case atStart => exact ⟨0, by omega, rfl, Below.refl _ _⟩
  case round =>
    obtain ⟨k, hk, rfl, hB⟩ := hrel
    have hsz2 := hB.size
    have hcell : ∀ j v, #[Value.int .i64 a0, .int .i64 a1, .int .i64 a2, .int .i64 c0, .int .i64 c1, .int .i64 c2][j]? = some v → wr.cell? ⟨w.heap.size, j, none⟩ = some v := by
      intro j v hj
      rw [hB.cell (p := ⟨w.heap.size, j, none⟩) (by simp)]
      simp [World.cell?, hblk, hj]
    by_cases hk2 : k = 2
    · subst hk2
      go_wp2
      go_ret
      exact ⟨rfl, hB0.trans (hB.mono (by omega))⟩
    · obtain ⟨x0, x1, x2, hx0, hx1, hx2, g⟩ : ∃ x0 x1 x2 : Int, wr.cell? ⟨w.heap.size, k * 3, none⟩ = some (.int .i64 x0) ∧ wr.cell? ⟨w.heap.size, k * 3 + 1, none⟩ = some (.int .i64 x1) ∧ wr.cell? ⟨w.heap.size, k * 3 + 2, none⟩ = some (.int .i64 x2) ∧ (-9223372036854775808 ≤ x0 ∧ x0 ≤ 9223372036854775807 ∧ -9223372036854775808 ≤ x1 ∧ x1 ≤ 9223372036854775807 ∧ -9223372036854775808 ≤ x2 ∧ x2 ≤ 9223372036854775807) := by
        obtain rfl | rfl : k = 0 ∨ k = 1 := by omega
        · exact ⟨a0, a1, a2, hcell _ _ rfl, hcell _ _ rfl, hcell _ _ rfl, by omega⟩
        · exact ⟨c0, c1, c2, hcell _ _ rfl, hcell _ _ rfl, hcell _ _ rfl, by omega⟩
      obtain ⟨g1, g2, g3, g4, g5, g6⟩ := g
      clear hcell hblk
      have s1 := vScroll_bd x0 x1 x2
      have s2 := vFirst_bd (vScroll x0 x1 x2) x2
      have s3 := vTo_bd (vScroll x0 x1 x2) x2
      have hlt : k < 2 := by omega
      by_cases hg : 0 ≤ x1 ∧ x1 < x2 ∧ x2 < 1073741824
      · obtain ⟨y1, y2, y3⟩ := hg
        obtain ⟨r1, r2, r3, r4⟩ := round_ok x0 x1 x2 y1 y2 y3
        go_wp2_with (first | (go_at_call 8; refine (shown_any _ _ _ (by omega) (by omega) (by omega) (by omega)).mono ?_; rintro e w' ⟨rfl, rfl⟩) | (go_at_call 7; refine (scroll_any _ _ _ _ (by omega) (by omega) (by omega) (by omega) (by omega) (by omega)).mono ?_; rintro e w' ⟨rfl, rfl⟩) | (go_at_call 9; refine (rshown_any _ _ _ (by omega) (by omega) (by omega) (by omega)).mono ?_; rintro e w' ⟨rfl, rfl⟩) | (go_at_call 10; refine (rscroll_any _ _ _ _ (by omega) (by omega) (by omega) (by omega) (by omega) (by omega)).mono ?_; rintro e w' ⟨rfl, rfl⟩))
        go_roundw
        case rel => exact ⟨k + 1, by omega, by go_num, by go_grown⟩
        case measure => simp [intOf]; omega
      · have hg' : x1 < 0 ∨ (0 ≤ x1 ∧ x2 ≤ x1) ∨ (0 ≤ x1 ∧ x1 < x2 ∧ 1073741824 ≤ x2) := by omega
        rcases hg' with y1 | ⟨y1, y2⟩ | ⟨y1, y2, y3⟩
        all_goals
          go_wp2_with (first | (go_at_call 8; refine (shown_any _ _ _ (by omega) (by omega) (by omega) (by omega)).mono ?_; rintro e w' ⟨rfl, rfl⟩) | (go_at_call 7; refine (scroll_any _ _ _ _ (by omega) (by omega) (by omega) (by omega) (by omega) (by omega)).mono ?_; rintro e w' ⟨rfl, rfl⟩) | (go_at_call 9; refine (rshown_any _ _ _ (by omega) (by omega) (by omega) (by omega)).mono ?_; rintro e w' ⟨rfl, rfl⟩) | (go_at_call 10; refine (rscroll_any _ _ _ _ (by omega) (by omega) (by omega) (by omega) (by omega) (by omega)).mono ?_; rintro e w' ⟨rfl, rfl⟩))
          go_roundw
          case rel => exact ⟨k + 1, by omega, by go_num, by go_grown⟩
          case measure => simp [intOf]; omega
end Go.Proofs.Ytdgccecoeonffaa
