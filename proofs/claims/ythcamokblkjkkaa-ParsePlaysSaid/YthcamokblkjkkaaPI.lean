/- A parser of keys: commands, in both kinds of modes. -/
import Derived.Test.YthcamokblkjkkaaPH
namespace Go.Proofs.Ythcamokblkjkkaa
open Go Go.RowKit Go.Fol
attribute [local go_sem ↓] run_min2 run_max2
attribute [local go_sem ↓] Go.wp_at_zero Go.wp_at_succ
set_option linter.unusedVariables false
set_option linter.unusedSimpArgs false
def cmd1 (c : Int) : Bool := c == 105 || c == 97 || c == 73 || c == 65 || c == 111 || c == 79 || c == 82 || c == 120 || c == 88 || c == 115 || c == 83 || c == 68 || c == 67 || c == 89 || c == 112 || c == 80 || c == 74 || c == 126 || c == 117 || c == 46 || c == 118 || c == 86
def commandF (s : PSt) (c : Int) : Int × PSt :=
  if c == 100 || c == 99 || c == 121 || c == 60 || c == 62 then (0, { s with op := str1 c, state := 3 })
  else if c == 103 then (0, { s with state := 2 })
  else if cmd1 c then (1, { s with name := str1 c })
  else if c == 114 || c == 109 || c == 113 || c == 64 then (0, { s with name := str1 c, state := 6 })
  else if c == 22 then (1, { s with name := ⟨#[94, 86]⟩ }) else if c == 18 then (1, { s with name := ⟨#[94, 82]⟩ })
  else if c == 15 then (1, { s with name := ⟨#[94, 79]⟩ }) else if c == 9 then (1, { s with name := ⟨#[94, 73]⟩ })
  else motionF s c
def sel1 (c : Int) : Bool := c == 100 || c == 120 || c == 121 || c == 99 || c == 115 || c == 60 || c == 62 || c == 126 || c == 117 || c == 85 || c == 74 || c == 111 || c == 118 || c == 86 || c == 73 || c == 65
def selectedF (s : PSt) (c : Int) : Int × PSt :=
  if sel1 c then (1, { s with name := str1 c })
  else if c == 105 || c == 97 then (0, { s with name := str1 c, state := 5 })
  else if c == 114 then (0, { s with name := str1 c, state := 6 })
  else if c == 22 then (1, { s with name := ⟨#[94, 86]⟩ })
  else motionF s c
section
variable {w0 w : World} {R : List Asrt}
set_option maxHeartbeats 1000000 in
theorem pselected {p : Nat} {c : Int} {s : PSt} (h0 : 0 ≤ c) (hc : c ≤ 255) (H : Owns w0 w (pobj p s :: R)) {r : Int} {s' : PSt} (hF : selectedF s c = (r, s')) :
    Calls Try.prog 47 #[.pointer (some ⟨p, 0, none⟩), .int .u8 c] w (Ret (.int .i64 r) w0 (pobj p s' :: R)) := by
  have HH := Lib.hid H
  have HF := Lib.hid hF
  have hcv := fun a W h => conv_byte a c W h0 hc h
  clear H hF
  go_enter Try.func47, Try.ntmps47
  go_wp2_with fail
  all_goals try exact tf (by assumption) (by assumption)
  all_goals
    have hF := HF.out
    simp only [selectedF, sel1, *, Bool.true_or, Bool.or_true, Bool.false_or, Bool.or_self, if_true, if_false, Bool.false_eq_true] at hF
    replace HF := Lib.hid hF
    clear hF
    first
      | ((with_reducible refine (pdone _ HH.out).mono ?_); rintro e w' ⟨rfl, h⟩; have HE := Lib.hid h; clear h; have hF := HF.out; cases hF; go_wp2_with fail; go_ret; exact ⟨rfl, HE.out⟩)
      | ((with_reducible refine (pdone _ (HH.out.alloc _ _).p1).mono ?_); rintro e w' ⟨rfl, h⟩; have HE := Lib.hid h; clear h; have hF := HF.out; cases hF; go_wp2_with fail; go_ret; exact ⟨rfl, HE.out.p1.drop⟩)
      | ((with_reducible refine (pnamed _ h0 hc HH.out).mono ?_); rintro e w' ⟨rfl, h⟩; have HE := Lib.hid h; clear h; have hF := HF.out; cases hF; go_wp2_with fail; go_ret; exact ⟨rfl, HE.out⟩)
      | ((with_reducible refine (pmotion h0 hc HH.out HF.out).mono ?_); rintro e w' ⟨rfl, h⟩; have HE := Lib.hid h; clear h; go_wp2_with fail; go_ret; exact ⟨rfl, HE.out⟩)
set_option maxHeartbeats 2000000 in
theorem pcommand {p : Nat} {c : Int} {s : PSt} (h0 : 0 ≤ c) (hc : c ≤ 255) (H : Owns w0 w (pobj p s :: R)) {r : Int} {s' : PSt} (hF : commandF s c = (r, s')) :
    Calls Try.prog 48 #[.pointer (some ⟨p, 0, none⟩), .int .u8 c] w (Ret (.int .i64 r) w0 (pobj p s' :: R)) := by
  have k := (H.alloc #[.int .u8 c] 5).p1.cell (j := 6) rfl
  have f := (H.alloc #[.int .u8 c] 5).p1.frozen 6
  have HO := Lib.hid (pgoes (s := { s with op := str1 c }) 3 (Owns.pset (H.alloc #[.int .u8 c] 5).p1 { s with op := str1 c } 6 (.string (str1 c)) rfl))
  have HH := Lib.hid H
  have HF := Lib.hid hF
  have hcv := fun a W h => conv_byte a c W h0 hc h
  clear H hF
  go_enter Try.func48, Try.ntmps48
  go_wp2_with fail
  all_goals try exact tf (by assumption) (by assumption)
  all_goals
    have hF := HF.out
    simp only [commandF, cmd1, *, Bool.true_or, Bool.or_true, Bool.false_or, Bool.or_self, if_true, if_false, Bool.false_eq_true] at hF
    replace HF := Lib.hid hF
    clear hF
    first
      | ((with_reducible refine (pgoes _ HH.out).mono ?_); rintro e w' ⟨rfl, h⟩; have HE := Lib.hid h; clear h; have hF := HF.out; cases hF; go_wp2_with fail; go_ret; exact ⟨rfl, HE.out⟩)
      | ((with_reducible refine HO.out.mono ?_); rintro e w' ⟨rfl, h⟩; have HE := Lib.hid h; clear h; have hF := HF.out; cases hF; go_wp2_with fail; go_ret; exact ⟨rfl, HE.out.p1.drop⟩)
      | ((with_reducible refine (pdone _ (HH.out.alloc _ _).p1).mono ?_); rintro e w' ⟨rfl, h⟩; have HE := Lib.hid h; clear h; have hF := HF.out; cases hF; go_wp2_with fail; go_ret; exact ⟨rfl, HE.out.p1.drop⟩)
      | ((with_reducible refine (pnamed _ h0 hc HH.out).mono ?_); rintro e w' ⟨rfl, h⟩; have HE := Lib.hid h; clear h; have hF := HF.out; cases hF; go_wp2_with fail; go_ret; exact ⟨rfl, HE.out⟩)
      | skip
  clear HO k f
  refine (pctl c _).mono ?_
  rintro e w' ⟨rfl, rfl⟩
  by_cases hx : c = 22
  · subst hx
    have hF := HF.out
    cases hF
    rw [show ctlF 22 = ⟨#[94, 86]⟩ from rfl]
    go_wp2_with fail
    refine (pdone _ HH.out).mono ?_
    rintro e w' ⟨rfl, h⟩
    have HE := Lib.hid h
    clear h
    go_wp2_with fail
    go_ret
    exact ⟨rfl, HE.out⟩
  have e22 : (c == 22) = false := by rw [beq_eq_false_iff_ne]; exact hx
  clear hx
  by_cases hx : c = 18
  · subst hx
    have hF := HF.out
    cases hF
    rw [show ctlF 18 = ⟨#[94, 82]⟩ from rfl]
    go_wp2_with fail
    refine (pdone _ HH.out).mono ?_
    rintro e w' ⟨rfl, h⟩
    have HE := Lib.hid h
    clear h
    go_wp2_with fail
    go_ret
    exact ⟨rfl, HE.out⟩
  have e18 : (c == 18) = false := by rw [beq_eq_false_iff_ne]; exact hx
  clear hx
  by_cases hx : c = 15
  · subst hx
    have hF := HF.out
    cases hF
    rw [show ctlF 15 = ⟨#[94, 79]⟩ from rfl]
    go_wp2_with fail
    refine (pdone _ HH.out).mono ?_
    rintro e w' ⟨rfl, h⟩
    have HE := Lib.hid h
    clear h
    go_wp2_with fail
    go_ret
    exact ⟨rfl, HE.out⟩
  have e15 : (c == 15) = false := by rw [beq_eq_false_iff_ne]; exact hx
  clear hx
  by_cases hx : c = 9
  · subst hx
    have hF := HF.out
    cases hF
    rw [show ctlF 9 = ⟨#[94, 73]⟩ from rfl]
    go_wp2_with fail
    refine (pdone _ HH.out).mono ?_
    rintro e w' ⟨rfl, h⟩
    have HE := Lib.hid h
    clear h
    go_wp2_with fail
    go_ret
    exact ⟨rfl, HE.out⟩
  have e9 : (c == 9) = false := by rw [beq_eq_false_iff_ne]; exact hx
  clear hx
  rw [show ctlF c = ⟨#[]⟩ by simp only [ctlF, e22, e18, e15, e9, if_false, Bool.false_eq_true]]
  have hF := HF.out
  simp only [e22, e18, e15, e9, if_false, Bool.false_eq_true] at hF
  have HG := Lib.hid hF
  clear hF
  go_wp2_with fail
  refine (pmotion h0 hc HH.out HG.out).mono ?_
  rintro e w' ⟨rfl, h⟩
  have HE := Lib.hid h
  clear h
  go_wp2_with fail
  go_ret
  exact ⟨rfl, HE.out⟩
end
end Go.Proofs.Ythcamokblkjkkaa
