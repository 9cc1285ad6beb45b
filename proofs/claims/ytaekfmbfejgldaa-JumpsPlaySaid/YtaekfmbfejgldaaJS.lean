/- jumps: where lines go (Shift, both texts), plain and walked. -/
import Derived.Test.YtaekfmbfejgldaaKnown
namespace Go.Proofs.Ytaekfmbfejgldaa
open Go Go.RowKit Go.Fol
attribute [local go_sem ↓] Go.wp_at_zero Go.wp_at_succ
set_option linter.unusedVariables false
set_option linter.unusedSimpArgs false
/-- Where a line is, and whether it is kept. -/
def shiftF (line at_ old now : Int) : Int × Bool :=
  if at_ < 0 ∨ old < 0 ∨ now < 0 ∨ line < at_ then (line, true)
  else if old ≤ line - at_ then (line + (now - old), true)
  else if line - at_ < now then (line, true) else (0, false)
/-- Numbers that are small. -/
def smallN (a b c d : Int) : Prop := (-1000000 ≤ a ∧ a ≤ 1000000) ∧ (-1000000 ≤ b ∧ b ≤ 1000000) ∧ (-1000000 ≤ c ∧ c ≤ 1000000) ∧ (-1000000 ≤ d ∧ d ≤ 1000000)
theorem wrong_yes (n : Int) (w : World) (h : n < 0) : Calls Try.prog 36 #[.int .i64 n] w fun e w' => e = .returned (.bool true) ∧ w = w' := by
  go_enter Try.func36, Try.ntmps36
  go_wp2
  go_ret
  exact ⟨rfl, rfl⟩
theorem wrong_no (n : Int) (w : World) (h : 0 ≤ n) (h2 : n ≤ 1000000) : Calls Try.prog 36 #[.int .i64 n] w fun e w' => e = .returned (.bool false) ∧ w = w' := by
  have h3 : ¬ (n < 0) := by omega
  have h4 : ¬ ((1073741824 : Int) < n) := by omega
  go_enter Try.func36, Try.ntmps36
  go_wp2
  go_ret
  exact ⟨rfl, rfl⟩
theorem odd_yes (n : Int) (w : World) (h : n < 0) : Calls Try.prog 37 #[.int .i64 n] w fun e w' => e = .returned (.bool true) ∧ w = w' := by
  go_enter Try.func37, Try.ntmps37
  go_wp2
  go_ret
  exact ⟨rfl, rfl⟩
theorem odd_no (n : Int) (w : World) (h : 0 ≤ n) (h2 : n ≤ 1000000) : Calls Try.prog 37 #[.int .i64 n] w fun e w' => e = .returned (.bool false) ∧ w = w' := by
  have h3 : ¬ (n < 0) := by omega
  have h4 : ¬ ((1073741824 : Int) < n) := by omega
  go_enter Try.func37, Try.ntmps37
  go_wp2
  go_ret
  exact ⟨rfl, rfl⟩
theorem shift_cases (line at_ old now : Int) (P : Int × Bool → Prop)
    (c1 : at_ < 0 → P (line, true)) (c2 : 0 ≤ at_ → old < 0 → P (line, true)) (c3 : 0 ≤ at_ → 0 ≤ old → now < 0 → P (line, true)) (c4 : 0 ≤ at_ → 0 ≤ old → 0 ≤ now → line < at_ → P (line, true))
    (c5 : 0 ≤ at_ → 0 ≤ old → 0 ≤ now → at_ ≤ line → old ≤ line - at_ → P (line + (now - old), true)) (c6 : 0 ≤ at_ → 0 ≤ old → 0 ≤ now → at_ ≤ line → line - at_ < old → line - at_ < now → P (line, true))
    (c7 : 0 ≤ at_ → 0 ≤ old → 0 ≤ now → at_ ≤ line → line - at_ < old → now ≤ line - at_ → P (0, false)) : P (shiftF line at_ old now) := by
  unfold shiftF
  by_cases h1 : at_ < 0
  · rw [if_pos (.inl h1)]; exact c1 h1
  by_cases h2 : old < 0
  · rw [if_pos (.inr (.inl h2))]; exact c2 (by omega) h2
  by_cases h3 : now < 0
  · rw [if_pos (.inr (.inr (.inl h3)))]; exact c3 (by omega) (by omega) h3
  by_cases h4 : line < at_
  · rw [if_pos (.inr (.inr (.inr h4)))]; exact c4 (by omega) (by omega) (by omega) h4
  rw [if_neg (by omega)]
  by_cases h5 : old ≤ line - at_
  · rw [if_pos h5]; exact c5 (by omega) (by omega) (by omega) (by omega) h5
  rw [if_neg h5]
  by_cases h6 : line - at_ < now
  · rw [if_pos h6]; exact c6 (by omega) (by omega) (by omega) (by omega) (by omega) h6
  · rw [if_neg h6]; exact c7 (by omega) (by omega) (by omega) (by omega) (by omega) (by omega)
theorem shiftF_bd {line at_ old now : Int} {m : Int} (h : -m ≤ line ∧ line ≤ m) (ho : -6 < old ∧ old < 6) (hn : -6 < now ∧ now < 6) (hm : 0 ≤ m) : -(m + 10) ≤ (shiftF line at_ old now).1 ∧ (shiftF line at_ old now).1 ≤ m + 10 :=
  shift_cases line at_ old now (fun p => -(m + 10) ≤ p.1 ∧ p.1 ≤ m + 10) (fun _ => by simp only; omega) (fun _ _ => by simp only; omega) (fun _ _ _ => by simp only; omega) (fun _ _ _ _ => by simp only; omega) (fun _ _ _ _ _ => by simp only; omega) (fun _ _ _ _ _ _ => by simp only; omega) (fun _ _ _ _ _ _ => by simp only; omega)
/-- marks.Shift. -/
theorem mshift (line at_ old now : Int) (w : World) (hs : smallN line at_ old now) :
    Calls Try.prog 27 #[.int .i64 line, .int .i64 at_, .int .i64 old, .int .i64 now] w fun e w' => e = .returned (.tuple #[.int .i64 (shiftF line at_ old now).1, .bool (shiftF line at_ old now).2]) ∧ w = w' := by
  obtain ⟨b1, b2, b3, b4⟩ := hs
  have b10 := b1.1
  have b11 := b1.2
  have b21 := b2.2
  have b31 := b3.2
  have b30 := b3.1
  have b40 := b4.1
  have b41 := b4.2
  refine shift_cases line at_ old now (fun p => Calls Try.prog 27 #[.int .i64 line, .int .i64 at_, .int .i64 old, .int .i64 now] w fun e w' => e = .returned (.tuple #[.int .i64 p.1, .bool p.2]) ∧ w = w') ?_ ?_ ?_ ?_ ?_ ?_ ?_
  all_goals
    intros
    go_enter Try.func27, Try.ntmps27
    go_wp2_with (first
      | (go_at_call 36; refine (wrong_yes _ _ (by assumption)).mono ?_; rintro e w' ⟨rfl, rfl⟩)
      | (go_at_call 36; refine (wrong_no _ _ (by assumption) (by assumption)).mono ?_; rintro e w' ⟨rfl, rfl⟩))
    go_ret2
    exact ⟨rfl, rfl⟩
/-- The document's. -/
theorem rshift (line at_ old now : Int) (w : World) (hs : smallN line at_ old now) :
    Calls Try.prog 29 #[.int .i64 line, .int .i64 at_, .int .i64 old, .int .i64 now] w fun e w' => e = .returned (.tuple #[.int .i64 (shiftF line at_ old now).1, .bool (shiftF line at_ old now).2]) ∧ w = w' := by
  obtain ⟨b1, b2, b3, b4⟩ := hs
  have b10 := b1.1
  have b11 := b1.2
  have b21 := b2.2
  have b31 := b3.2
  have b30 := b3.1
  have b40 := b4.1
  have b41 := b4.2
  refine shift_cases line at_ old now (fun p => Calls Try.prog 29 #[.int .i64 line, .int .i64 at_, .int .i64 old, .int .i64 now] w fun e w' => e = .returned (.tuple #[.int .i64 p.1, .bool p.2]) ∧ w = w') ?_ ?_ ?_ ?_ ?_ ?_ ?_
  all_goals
    intros
    go_enter Try.func29, Try.ntmps29
    go_wp2_with (first
      | (go_at_call 37; refine (odd_yes _ _ (by assumption)).mono ?_; rintro e w' ⟨rfl, rfl⟩)
      | (go_at_call 37; refine (odd_no _ _ (by assumption) (by assumption)).mono ?_; rintro e w' ⟨rfl, rfl⟩))
    go_ret2
    first | exact ⟨rfl, rfl⟩ | exact ⟨by simp; omega, rfl⟩
/-- The places behind a change. -/
def adjK (at_ old now : Int) (p : Int × Int) : Bool := (shiftF p.1 at_ old now).2
def adjP (at_ old now : Int) (p : Int × Int) : Int × Int := ((shiftF p.1 at_ old now).1, p.2)
def adjL (at_ old now : Int) (L : List (Int × Int)) : List (Int × Int) := (L.filter (adjK at_ old now)).map (adjP at_ old now)
end Go.Proofs.Ytaekfmbfejgldaa
