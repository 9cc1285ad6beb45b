/- The windows of package view: the walks that the statements of layer 30 rest on. No condition beyond the bounds of Go's integers. -/
import Derived.Test.YtdgccecoeonffaaChecked
import Derived.Test.YtdgccecoeonffaaKit
namespace Go.Proofs.Ytdgccecoeonffaa
set_option linter.unusedVariables false
set_option linter.unusedSimpArgs false
open Go.ChangeShapes Go.WideShapes Go.ChangeAt Go.RowKit Go.Fol
attribute [local go_sem ↓] run_min2 run_max2

def vNear (n : Int) : Int := min (max n (-1073741824)) 1073741824
def vFirst (t c : Int) : Int := min (max (vNear t) 0) (max (vNear c - 1) 0)
def vScroll (t l c : Int) : Int := if c < 1 then 0 else if vNear l < vFirst t c then max (vNear l) 0 else if 10 ≤ vNear l - vFirst t c then vNear l - 9 else vFirst t c
def vTo (t c : Int) : Int := min (vFirst t c + 10) (max (vNear c) 0)
theorem vNear_bd (n : Int) : -1073741824 ≤ vNear n ∧ vNear n ≤ 1073741824 := by unfold vNear; omega
theorem vFirst_bd (t c : Int) : 0 ≤ vFirst t c ∧ vFirst t c ≤ 1073741824 := by unfold vFirst vNear; omega

theorem near_any (n : Int) (w : World) (h : -9223372036854775808 ≤ n) (h2 : n ≤ 9223372036854775807) :
    Calls Try.prog 12 #[.int .i64 n] w fun e w' => e = .returned (.int .i64 (vNear n)) ∧ w = w' := by
  go_enter Try.func12, Try.ntmps12
  go_wp2
  all_goals (go_ret; exact ⟨ret_int (by unfold vNear; omega), rfl⟩)

theorem first_any (t c : Int) (w : World) (h : -9223372036854775808 ≤ t) (h2 : t ≤ 9223372036854775807) (h3 : -9223372036854775808 ≤ c) (h4 : c ≤ 9223372036854775807) :
    Calls Try.prog 11 #[.int .i64 t, .int .i64 c] w fun e w' => e = .returned (.int .i64 (vFirst t c)) ∧ w = w' := by
  have b1 := vNear_bd t
  have b2 := vNear_bd c
  go_enter Try.func11, Try.ntmps11
  go_wp2_with (go_at_call 12; refine (near_any _ _ (by omega) (by omega)).mono ?_; rintro e w' ⟨rfl, rfl⟩)
  all_goals (go_ret; exact ⟨ret_int (by unfold vFirst; omega), rfl⟩)

theorem scroll_any (t l c : Int) (w : World) (h : -9223372036854775808 ≤ t) (h2 : t ≤ 9223372036854775807) (h3 : -9223372036854775808 ≤ c) (h4 : c ≤ 9223372036854775807) (h5 : -9223372036854775808 ≤ l) (h6 : l ≤ 9223372036854775807) :
    Calls Try.prog 7 #[.int .i64 t, .int .i64 l, .int .i64 c] w fun e w' => e = .returned (.int .i64 (vScroll t l c)) ∧ w = w' := by
  have b1 := vNear_bd l
  have b2 := vFirst_bd t c
  go_enter Try.func7, Try.ntmps7
  go_wp2_with (first | (go_at_call 12; refine (near_any _ _ (by omega) (by omega)).mono ?_; rintro e w' ⟨rfl, rfl⟩) | (go_at_call 11; refine (first_any _ _ _ (by omega) (by omega) (by omega) (by omega)).mono ?_; rintro e w' ⟨rfl, rfl⟩))
  all_goals (go_ret; exact ⟨ret_int (by unfold vScroll; omega), rfl⟩)


theorem shown_any (t c : Int) (w : World) (h : -9223372036854775808 ≤ t) (h2 : t ≤ 9223372036854775807) (h3 : -9223372036854775808 ≤ c) (h4 : c ≤ 9223372036854775807) :
    Calls Try.prog 8 #[.int .i64 t, .int .i64 c] w fun e w' => e = .returned (.tuple #[.int .i64 (vFirst t c), .int .i64 (vTo t c)]) ∧ w = w' := by
  have b1 := vNear_bd c
  have b2 := vFirst_bd t c
  go_enter Try.func8, Try.ntmps8
  go_wp2_with (first | (go_at_call 12; refine (near_any _ _ (by omega) (by omega)).mono ?_; rintro e w' ⟨rfl, rfl⟩) | (go_at_call 11; refine (first_any _ _ _ (by omega) (by omega) (by omega) (by omega)).mono ?_; rintro e w' ⟨rfl, rfl⟩))
  all_goals (go_ret2; exact ⟨ret2_int rfl (by unfold vTo; omega), rfl⟩)

set_option maxHeartbeats 2000000 in
theorem rscroll_any (t l c : Int) (w : World) (h : -9223372036854775808 ≤ t) (h2 : t ≤ 9223372036854775807) (h3 : -9223372036854775808 ≤ c) (h4 : c ≤ 9223372036854775807) (h5 : -9223372036854775808 ≤ l) (h6 : l ≤ 9223372036854775807) :
    Calls Try.prog 10 #[.int .i64 t, .int .i64 l, .int .i64 c] w fun e w' => e = .returned (.int .i64 (vScroll t l c)) ∧ w = w' := by
  go_enter Try.func10, Try.ntmps10
  go_wp2
  all_goals (go_ret; exact ⟨ret_int (by unfold vScroll vFirst vNear; omega), rfl⟩)

theorem rshown_any (t c : Int) (w : World) (h : -9223372036854775808 ≤ t) (h2 : t ≤ 9223372036854775807) (h3 : -9223372036854775808 ≤ c) (h4 : c ≤ 9223372036854775807) :
    Calls Try.prog 9 #[.int .i64 t, .int .i64 c] w fun e w' => e = .returned (.tuple #[.int .i64 (vFirst t c), .int .i64 (vTo t c)]) ∧ w = w' := by
  go_enter Try.func9, Try.ntmps9
  go_wp2
  all_goals (go_ret2; exact ⟨ret2_int (by unfold vFirst vNear; omega) (by unfold vTo vFirst vNear; omega), rfl⟩)

theorem known_any (w : World) : Calls Try.prog 6 #[] w fun e w' => e = .returned (.bool true) ∧ w = w' := by
  have e1 : vFirst 15 20 = 15 := by decide
  have e2 : vTo 15 20 = 20 := by decide
  have e3 : vScroll 0 12 20 = 3 := by decide
  have e4 : vScroll 5 2 20 = 2 := by decide
  go_enter Try.func6, Try.ntmps6
  go_wp2_with (first | (go_at_call 8; refine (shown_any _ _ _ (by omega) (by omega) (by omega) (by omega)).mono ?_; rintro e w' ⟨rfl, rfl⟩) | (go_at_call 7; refine (scroll_any _ _ _ _ (by omega) (by omega) (by omega) (by omega) (by omega) (by omega)).mono ?_; rintro e w' ⟨rfl, rfl⟩))
  all_goals (go_ret; exact ⟨rfl, rfl⟩)
end Go.Proofs.Ytdgccecoeonffaa
