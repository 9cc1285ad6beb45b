/- ViewSteps answers true at every input: the walk. -/
import Derived.Test.YtdgccecoeonffaaCalls
import Derived.Test.YtdgccecoeonffaaRead
import Derived.Handy
namespace Go.Proofs.Ytdgccecoeonffaa
set_option linter.unusedVariables false
set_option linter.unusedSimpArgs false
open Go.ChangeShapes Go.WideShapes Go.ChangeAt Go.RowKit Go.Fol
attribute [local go_sem ↓] run_min2 run_max2

/-- The first window: the cursor's line is in it. -/
theorem start_ok (l n : Int) (h1 : 0 ≤ l) (h2 : l ≤ n - 1) (h3 : n ≤ 256) : 0 ≤ vScroll 0 l n ∧ vScroll 0 l n ≤ n - 1 ∧ vScroll 0 l n ≤ l ∧ l < vScroll 0 l n + 10 := by
  unfold vScroll vFirst vNear; omega
theorem step_ok (t l n m : Int) (h1 : 0 ≤ m) (h2 : m ≤ n - 1) (h3 : n ≤ 256) (ht : 0 ≤ t) (ht' : t ≤ n - 1) (hl : t ≤ l) (hl' : l < t + 10) (hm : m ≤ l + 1) (hm' : l - 1 ≤ m) :
    (m < t → vScroll t m n = t - 1) ∧ (t + 10 ≤ m → vScroll t m n = t + 1) ∧ (t ≤ m → m < t + 10 → vScroll t m n = t) := by
  unfold vScroll vFirst vNear; omega

set_option maxHeartbeats 2000000 in
theorem viewSteps_walk (w : World) (v0 v1 v2 : Value) (h0 : Arg Try.prog w 5 v0) (h1 : Arg Try.prog w 29 v1) (h2 : Arg Try.prog w 5 v2) : Calls Try.prog 4 #[v0, v1, v2] w fun e w' => e = .returned (.bool true) ∧ Below w.heap.size w w' := by
  obtain ⟨c, rfl, wc⟩ := arg_int Try.underlying5 h0
  obtain ⟨a, len, cap, rfl, hnil, hlc, hcm, _, hrow⟩ := arg_slice Try.underlying29 (by kernel_rfl) (Nat.succ_pos 0) h1
  obtain ⟨f, rfl, wf⟩ := arg_int Try.underlying5 h2
  obtain ⟨lc, gc⟩ := bounds_u8 wc
  obtain ⟨lf, gf⟩ := bounds_u8 wf
  unfold maxLen at hcm
  by_cases hbig : 100 < len
  · go_enter Try.func4, Try.ntmps4
    go_wp2_with (go_at_call 6; refine (known_any _).mono ?_; rintro e w' ⟨rfl, rfl⟩)
    go_ret
    exact ⟨rfl, Below.refl _ _⟩
  · have hcell : ∀ k, k < len → ∃ b off bv, a = some ⟨b, off, none⟩ ∧ w.cell? ⟨b, off + k, none⟩ = some (.bool bv) := by
      intro k hk
      obtain ⟨b, off, rfl, _, hr⟩ := hrow (by omega)
      obtain ⟨es, h1, h2, h3⟩ := hr k hk
      obtain ⟨bv, rfl⟩ := rd_bool Try.underlying4 h2
      exact ⟨b, off, bv, rfl, by have := h3 0 _ rfl; simpa using this⟩
    have Hcell := Lib.hid hcell
    have Hnil := Lib.hid hnil
    clear hcell hrow hnil h0 h1 h2
    obtain ⟨n, hn⟩ : ∃ n, c + 1 = n := ⟨_, rfl⟩
    have gn : 1 ≤ n ∧ n ≤ 256 := by omega
    obtain ⟨l0, hl0⟩ : ∃ l, f % n = l := ⟨_, rfl⟩
    have gl0 : 0 ≤ l0 ∧ l0 ≤ n - 1 := by
      subst hl0
      have := Int.emod_nonneg f (b := n) (by omega)
      have := Int.emod_lt_of_pos f (b := n) (by omega)
      omega
    have s0 := start_ok l0 n gl0.1 gl0.2 gn.2
    go_enter Try.func4, Try.ntmps4
    go_wp2_with (first | (go_at_call 6; refine (known_any _).mono ?_; rintro e w' ⟨rfl, rfl⟩) | (go_at_call 7; refine (scroll_any _ _ _ _ (by omega) (by omega) (by omega) (by omega) (by omega) (by omega)).mono ?_; rintro e w' ⟨rfl, rfl⟩))
    go_loop [8, 9, 10] (fun l t i => ∃ (k : Nat) (l' t' : Int), k ≤ len ∧ i = .int .i64 k ∧ l = .int .i64 l' ∧ t = .int .i64 t' ∧ 0 ≤ l' ∧ l' ≤ n - 1 ∧ 0 ≤ t' ∧ t' ≤ n - 1 ∧ t' ≤ l' ∧ l' < t' + 10) (fun _ _ i => len - (intOf i).toNat)
    case atStart => exact ⟨0, _, _, by omega, rfl, rfl, rfl, by omega⟩
    case round =>
      obtain ⟨k, l, t, hk, rfl, rfl, rfl, r1, r2, r3, r4, r5, r6⟩ := hrel
      clear hl0 s0 hn
      by_cases hlt : k < len
      · obtain ⟨b, off, bv, rfl, hc⟩ := Hcell.out k hlt
        obtain ⟨m, hm⟩ : ∃ m, (if bv then min (l + 1) (n - 1) else max (l - 1) 0) = m := ⟨_, rfl⟩
        have gm : 0 ≤ m ∧ m ≤ n - 1 ∧ m ≤ l + 1 ∧ l - 1 ≤ m := by cases bv <;> simp at hm <;> omega
        obtain ⟨sA, sB, sC⟩ := step_ok t l n m gm.1 gm.2.1 gn.2 r3 r4 r5 r6 gm.2.2.1 gm.2.2.2
        by_cases q1 : m < t
        · have e := sA q1
          clear sA sB sC
          cases bv <;> simp only [if_true, Bool.false_eq_true, if_false] at hm
          all_goals
            go_wp2_with (go_at_call 7; refine (scroll_any _ _ _ _ (by omega) (by omega) (by omega) (by omega) (by omega) (by omega)).mono ?_; rintro e w' ⟨rfl, rfl⟩)
            go_round
            case rel => exact ⟨k + 1, m, t - 1, by omega, by go_num, rfl, rfl, by omega⟩
            case measure => simp [intOf] <;> omega
        · by_cases q2 : t + 10 ≤ m
          · have e := sB q2
            clear sA sB sC
            cases bv <;> simp only [if_true, Bool.false_eq_true, if_false] at hm
            · exfalso; omega
            · go_wp2_with (go_at_call 7; refine (scroll_any _ _ _ _ (by omega) (by omega) (by omega) (by omega) (by omega) (by omega)).mono ?_; rintro e w' ⟨rfl, rfl⟩)
              go_round
              case rel => exact ⟨k + 1, m, t + 1, by omega, by go_num, rfl, rfl, by omega⟩
              case measure => simp [intOf] <;> omega
          · have e := sC (by omega) (by omega)
            clear sA sB sC
            cases bv <;> simp only [if_true, Bool.false_eq_true, if_false] at hm
            all_goals
              go_wp2_with (go_at_call 7; refine (scroll_any _ _ _ _ (by omega) (by omega) (by omega) (by omega) (by omega) (by omega)).mono ?_; rintro e w' ⟨rfl, rfl⟩)
              go_round
              case rel => exact ⟨k + 1, m, t, by omega, by go_num, rfl, rfl, by omega⟩
              case measure => simp [intOf] <;> omega
      · go_wp2
        go_ret
        exact ⟨rfl, Below.refl _ _⟩
end Go.Proofs.Ytdgccecoeonffaa
