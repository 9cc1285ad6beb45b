/- The windows of package view: the walks that the statements of layer 30 rest on. No condition beyond the bounds of Go's integers. -/
import Derived.Test.YtdgccecoeonffaaCalls
namespace Go.Proofs.Ytdgccecoeonffaa
set_option linter.unusedVariables false
set_option linter.unusedSimpArgs false
open Go.ChangeShapes Go.WideShapes Go.ChangeAt Go.RowKit Go.Fol
attribute [local go_sem ↓] run_min2 run_max2

theorem shown_walk (a0 : Int) (a1 : Int) (h1 : -9223372036854775808 ≤ a0) (h2 : a0 ≤ 9223372036854775807) (h3 : 0 ≤ a1) (h4 : a1 ≤ 65535) (w : World) :
    Calls Try.prog 5 #[.int .i64 a0, .int .u16 a1] w fun e w' => e = .returned (.bool true) ∧ w = w' := by
  obtain ⟨n, hn⟩ : ∃ n, n = a1 % 60 := ⟨_, rfl⟩
  have hb : 0 ≤ n ∧ n ≤ 59 := by omega
  have hcv : a1 % 60 = n := hn.symm
  clear hn
  have f1 := vFirst_bd a0 n
  by_cases h0 : n = 0
  · subst h0
    have e1 : vFirst a0 0 = 0 := by unfold vFirst vNear; omega
    have e2 : vTo a0 0 = 0 := by unfold vTo; rw [e1]; unfold vNear; omega
    go_enter Try.func5, Try.ntmps5
    go_wp2_with (first | (go_at_call 6; refine (known_any _).mono ?_; rintro e w' ⟨rfl, rfl⟩) | (go_at_call 8; refine (shown_any _ _ _ (by omega) (by omega) (by omega) (by omega)).mono ?_; rintro e w' ⟨rfl, rfl⟩) | (go_at_call 7; refine (scroll_any _ _ _ _ (by omega) (by omega) (by omega) (by omega) (by omega) (by omega)).mono ?_; rintro e w' ⟨rfl, rfl⟩))
    go_ret
    exact ⟨rfl, rfl⟩
  · have e1 : vFirst a0 n = min (max a0 0) (n - 1) := by unfold vFirst vNear; omega
    have e2 : vTo a0 n = min (min (max a0 0) (n - 1) + 10) n := by unfold vTo; rw [e1]; unfold vNear; omega
    have e3 : vScroll a0 (min (max a0 0) (n - 1)) n = min (max a0 0) (n - 1) := by unfold vScroll; rw [e1]; unfold vNear; omega
    have hne : (n == 0) = false := by simp; omega
    go_enter Try.func5, Try.ntmps5
    go_wp2_with (first | (go_at_call 6; refine (known_any _).mono ?_; rintro e w' ⟨rfl, rfl⟩) | (go_at_call 8; refine (shown_any _ _ _ (by omega) (by omega) (by omega) (by omega)).mono ?_; rintro e w' ⟨rfl, rfl⟩) | (go_at_call 7; refine (scroll_any _ _ _ _ (by omega) (by omega) (by omega) (by omega) (by omega) (by omega)).mono ?_; rintro e w' ⟨rfl, rfl⟩))
    go_ret
    exact ⟨rfl, rfl⟩

end Go.Proofs.Ytdgccecoeonffaa
