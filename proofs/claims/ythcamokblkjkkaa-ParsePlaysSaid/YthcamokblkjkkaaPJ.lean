/- A parser of keys: a step. -/
import Derived.Test.YthcamokblkjkkaaPI
namespace Go.Proofs.Ythcamokblkjkkaa
open Go Go.RowKit Go.Fol
attribute [local go_sem ↓] run_min2 run_max2
attribute [local go_sem ↓] Go.wp_at_zero Go.wp_at_succ
set_option linter.unusedVariables false
set_option linter.unusedSimpArgs false
def stepF (s : PSt) (c : Int) : Int × PSt :=
  if c = 27 then (if s.first && s.visual then (1, { s with name := ⟨#[101, 115, 99]⟩ }) else (2, s))
  else if s.state = 1 then nameF s c
  else if s.state = 2 then (if c == 126 || c == 117 || c == 85 then (0, { s with op := strg c, state := 3 }) else farF s c)
  else if s.state = 3 then operandF s c
  else if s.state = 4 then farF s c
  else if s.state = 5 then objF s c
  else if s.state = 6 then argF s c
  else if s.state = 7 then searchF s c
  else if digB s.aany c then (0, { s with an := dig s.an c, aany := true })
  else if c = 34 then (0, { s with state := 1 })
  else if s.visual then selectedF s c else commandF s c
/-- What a parser's state always is. -/
structure PSt.ok (s : PSt) : Prop where
  an : s.an ≤ 9999
  bn : s.bn ≤ 9999
  text : s.text.size ≤ 64
  op : s.state = 3 → 1 ≤ s.op.size ∧ s.op.size ≤ 2
  s0 : 0 ≤ s.state
  s7 : s.state ≤ 7
section
variable {w0 w : World} {R : List Asrt}
theorem pstep_esc {p : Nat} {s : PSt} (H : Owns w0 w (pobj p s :: R)) {r : Int} {s' : PSt} (hF : stepF s 27 = (r, s')) :
    Calls Try.prog 25 #[.pointer (some ⟨p, 0, none⟩), .int .u8 27] w (Ret (.int .i64 r) w0 (pobj p s' :: R)) := by
  have k2 : w.cell? ⟨p, 2, none⟩ = some (.bool s.visual) := H.cell (j := 2) rfl
  have k3 : w.cell? ⟨p, 3, none⟩ = some (.bool s.first) := H.cell (j := 3) rfl
  have HH := Lib.hid H
  rw [stepF, if_pos rfl] at hF
  clear H
  cases hb : (s.first && s.visual) <;> rw [hb] at hF <;> cases hF
  · cases h1 : s.first <;> cases h2 : s.visual <;> rw [h1] at k3 <;> rw [h2] at k2 <;> rw [h1, h2] at hb <;> first | (cases hb; done) | skip
    all_goals
      clear h1 h2 hb
      go_enter Try.func25, Try.ntmps25
      go_wp2_with fail
      go_ret
      exact ⟨rfl, HH.out⟩
  · have h1 : s.first = true := by simp at hb; exact hb.1
    have h2 : s.visual = true := by simp at hb; exact hb.2
    rw [h1] at k3
    rw [h2] at k2
    clear h1 h2 hb
    go_enter Try.func25, Try.ntmps25
    go_wp2_with fail
    refine (pdone _ HH.out).mono ?_
    rintro e w' ⟨rfl, h⟩
    have HE := Lib.hid h
    clear h
    go_wp2_with fail
    go_ret
    exact ⟨rfl, HE.out⟩
theorem pstep_0 {p : Nat} {c : Int} {s : PSt} (h0 : 0 ≤ c) (hc : c ≤ 255) (h27 : ¬ c = 27) (ho : s.ok) (hs : s.state = 0) (H : Owns w0 w (pobj p s :: R)) {r : Int} {s' : PSt} (hF : stepF s c = (r, s')) :
    Calls Try.prog 25 #[.pointer (some ⟨p, 0, none⟩), .int .u8 c] w (Ret (.int .i64 r) w0 (pobj p s' :: R)) := by
  have k0 : w.cell? ⟨p, 0, none⟩ = some (.int .i64 0) := by rw [← hs]; exact H.cell (j := 0) rfl
  have k2 : w.cell? ⟨p, 2, none⟩ = some (.bool s.visual) := H.cell (j := 2) rfl
  have HH := Lib.hid H
  have e27 : (c == 27) = false := by rw [beq_eq_false_iff_ne]; exact h27
  rw [stepF, if_neg h27, if_neg (by omega), if_neg (by omega), if_neg (by omega), if_neg (by omega), if_neg (by omega), if_neg (by omega), if_neg (by omega)] at hF
  cases hd : digB s.aany c with
  | true =>
    have HC := Lib.hid (pdigA hd ho.an H)
    rw [hd, if_pos rfl] at hF
    cases hF
    clear H hd h27 hs ho
    go_enter Try.func25, Try.ntmps25
    go_wp2_with fail
    refine HC.out.mono ?_
    rintro e w' ⟨rfl, h⟩
    have HE := Lib.hid h
    clear h
    go_wp2_with fail
    go_ret
    exact ⟨rfl, HE.out⟩
  | false =>
    have HC := Lib.hid (pdigit_no (o := 10) (n := 0) hd (H.cell (j := 11) rfl))
    rw [hd, if_neg (by simp)] at hF
    by_cases h34 : c = 34
    · rw [if_pos h34] at hF
      cases hF
      subst h34
      clear H hd h27 hs ho e27
      go_enter Try.func25, Try.ntmps25
      go_wp2_with fail
      refine HC.out.mono ?_
      rintro e w' ⟨rfl, rfl⟩
      go_wp2_with fail
      refine (pgoes _ HH.out).mono ?_
      rintro e w' ⟨rfl, h⟩
      have HE := Lib.hid h
      clear h
      go_wp2_with fail
      go_ret
      exact ⟨rfl, HE.out⟩
    · rw [if_neg h34] at hF
      have e34 : (c == 34) = false := by rw [beq_eq_false_iff_ne]; exact h34
      cases hv : s.visual with
      | true =>
        rw [hv, if_pos rfl] at hF
        have HF := Lib.hid hF
        rw [hv] at k2
        clear H hd h27 hs ho hF h34 hv
        go_enter Try.func25, Try.ntmps25
        go_wp2_with fail
        refine HC.out.mono ?_
        rintro e w' ⟨rfl, rfl⟩
        go_wp2_with fail
        refine (pselected h0 hc HH.out HF.out).mono ?_
        rintro e w' ⟨rfl, h⟩
        have HE := Lib.hid h
        clear h
        go_wp2_with fail
        go_ret
        exact ⟨rfl, HE.out⟩
      | false =>
        rw [hv, if_neg (by simp)] at hF
        have HF := Lib.hid hF
        rw [hv] at k2
        clear H hd h27 hs ho hF h34 hv
        go_enter Try.func25, Try.ntmps25
        go_wp2_with fail
        refine HC.out.mono ?_
        rintro e w' ⟨rfl, rfl⟩
        go_wp2_with fail
        refine (pcommand h0 hc HH.out HF.out).mono ?_
        rintro e w' ⟨rfl, h⟩
        have HE := Lib.hid h
        clear h
        go_wp2_with fail
        go_ret
        exact ⟨rfl, HE.out⟩
theorem pstep_1 {p : Nat} {c : Int} {s : PSt} (h0 : 0 ≤ c) (hc : c ≤ 255) (h27 : ¬ c = 27) (ho : s.ok) (hs : s.state = 1) (H : Owns w0 w (pobj p s :: R)) {r : Int} {s' : PSt} (hF : stepF s c = (r, s')) :
    Calls Try.prog 25 #[.pointer (some ⟨p, 0, none⟩), .int .u8 c] w (Ret (.int .i64 r) w0 (pobj p s' :: R)) := by
  have k0 : w.cell? ⟨p, 0, none⟩ = some (.int .i64 1) := by rw [← hs]; exact H.cell (j := 0) rfl
  have HH := Lib.hid H
  have e27 : (c == 27) = false := by rw [beq_eq_false_iff_ne]; exact h27
  rw [stepF, if_neg h27, if_pos hs] at hF
  have HF := Lib.hid hF
  have HC := Lib.hid (pname HH.out HF.out)
  clear H hF h27 hs ho
  go_enter Try.func25, Try.ntmps25
  go_wp2_with fail
  refine HC.out.mono ?_
  rintro e w' ⟨rfl, h⟩
  have HE := Lib.hid h
  clear h
  go_wp2_with fail
  go_ret
  exact ⟨rfl, HE.out⟩
theorem pstep_3 {p : Nat} {c : Int} {s : PSt} (h0 : 0 ≤ c) (hc : c ≤ 255) (h27 : ¬ c = 27) (ho : s.ok) (hs : s.state = 3) (H : Owns w0 w (pobj p s :: R)) {r : Int} {s' : PSt} (hF : stepF s c = (r, s')) :
    Calls Try.prog 25 #[.pointer (some ⟨p, 0, none⟩), .int .u8 c] w (Ret (.int .i64 r) w0 (pobj p s' :: R)) := by
  have k0 : w.cell? ⟨p, 0, none⟩ = some (.int .i64 3) := by rw [← hs]; exact H.cell (j := 0) rfl
  have HH := Lib.hid H
  have e27 : (c == 27) = false := by rw [beq_eq_false_iff_ne]; exact h27
  rw [stepF, if_neg h27, if_neg (by omega), if_neg (by omega), if_pos hs] at hF
  have HF := Lib.hid hF
  have HC := Lib.hid (poperand h0 hc ho.bn (ho.op hs).1 (ho.op hs).2 HH.out HF.out)
  clear H hF h27 hs ho
  go_enter Try.func25, Try.ntmps25
  go_wp2_with fail
  refine HC.out.mono ?_
  rintro e w' ⟨rfl, h⟩
  have HE := Lib.hid h
  clear h
  go_wp2_with fail
  go_ret
  exact ⟨rfl, HE.out⟩
theorem pstep_4 {p : Nat} {c : Int} {s : PSt} (h0 : 0 ≤ c) (hc : c ≤ 255) (h27 : ¬ c = 27) (ho : s.ok) (hs : s.state = 4) (H : Owns w0 w (pobj p s :: R)) {r : Int} {s' : PSt} (hF : stepF s c = (r, s')) :
    Calls Try.prog 25 #[.pointer (some ⟨p, 0, none⟩), .int .u8 c] w (Ret (.int .i64 r) w0 (pobj p s' :: R)) := by
  have k0 : w.cell? ⟨p, 0, none⟩ = some (.int .i64 4) := by rw [← hs]; exact H.cell (j := 0) rfl
  have HH := Lib.hid H
  have e27 : (c == 27) = false := by rw [beq_eq_false_iff_ne]; exact h27
  rw [stepF, if_neg h27, if_neg (by omega), if_neg (by omega), if_neg (by omega), if_pos hs] at hF
  have HF := Lib.hid hF
  have HC := Lib.hid (pfar h0 hc HH.out HF.out)
  clear H hF h27 hs ho
  go_enter Try.func25, Try.ntmps25
  go_wp2_with fail
  refine HC.out.mono ?_
  rintro e w' ⟨rfl, h⟩
  have HE := Lib.hid h
  clear h
  go_wp2_with fail
  go_ret
  exact ⟨rfl, HE.out⟩
theorem pstep_5 {p : Nat} {c : Int} {s : PSt} (h0 : 0 ≤ c) (hc : c ≤ 255) (h27 : ¬ c = 27) (ho : s.ok) (hs : s.state = 5) (H : Owns w0 w (pobj p s :: R)) {r : Int} {s' : PSt} (hF : stepF s c = (r, s')) :
    Calls Try.prog 25 #[.pointer (some ⟨p, 0, none⟩), .int .u8 c] w (Ret (.int .i64 r) w0 (pobj p s' :: R)) := by
  have k0 : w.cell? ⟨p, 0, none⟩ = some (.int .i64 5) := by rw [← hs]; exact H.cell (j := 0) rfl
  have HH := Lib.hid H
  have e27 : (c == 27) = false := by rw [beq_eq_false_iff_ne]; exact h27
  rw [stepF, if_neg h27, if_neg (by omega), if_neg (by omega), if_neg (by omega), if_neg (by omega), if_pos hs] at hF
  have HF := Lib.hid hF
  have HC := Lib.hid (pobject HH.out HF.out)
  clear H hF h27 hs ho
  go_enter Try.func25, Try.ntmps25
  go_wp2_with fail
  refine HC.out.mono ?_
  rintro e w' ⟨rfl, h⟩
  have HE := Lib.hid h
  clear h
  go_wp2_with fail
  go_ret
  exact ⟨rfl, HE.out⟩
theorem pstep_6 {p : Nat} {c : Int} {s : PSt} (h0 : 0 ≤ c) (hc : c ≤ 255) (h27 : ¬ c = 27) (ho : s.ok) (hs : s.state = 6) (H : Owns w0 w (pobj p s :: R)) {r : Int} {s' : PSt} (hF : stepF s c = (r, s')) :
    Calls Try.prog 25 #[.pointer (some ⟨p, 0, none⟩), .int .u8 c] w (Ret (.int .i64 r) w0 (pobj p s' :: R)) := by
  have k0 : w.cell? ⟨p, 0, none⟩ = some (.int .i64 6) := by rw [← hs]; exact H.cell (j := 0) rfl
  have HH := Lib.hid H
  have e27 : (c == 27) = false := by rw [beq_eq_false_iff_ne]; exact h27
  rw [stepF, if_neg h27, if_neg (by omega), if_neg (by omega), if_neg (by omega), if_neg (by omega), if_neg (by omega), if_pos hs] at hF
  have HF := Lib.hid hF
  have HC := Lib.hid (pargument HH.out HF.out)
  clear H hF h27 hs ho
  go_enter Try.func25, Try.ntmps25
  go_wp2_with fail
  refine HC.out.mono ?_
  rintro e w' ⟨rfl, h⟩
  have HE := Lib.hid h
  clear h
  go_wp2_with fail
  go_ret
  exact ⟨rfl, HE.out⟩
theorem pstep_7 {p : Nat} {c : Int} {s : PSt} (h0 : 0 ≤ c) (hc : c ≤ 255) (h27 : ¬ c = 27) (ho : s.ok) (hs : s.state = 7) (H : Owns w0 w (pobj p s :: R)) {r : Int} {s' : PSt} (hF : stepF s c = (r, s')) :
    Calls Try.prog 25 #[.pointer (some ⟨p, 0, none⟩), .int .u8 c] w (Ret (.int .i64 r) w0 (pobj p s' :: R)) := by
  have k0 : w.cell? ⟨p, 0, none⟩ = some (.int .i64 7) := by rw [← hs]; exact H.cell (j := 0) rfl
  have HH := Lib.hid H
  have e27 : (c == 27) = false := by rw [beq_eq_false_iff_ne]; exact h27
  rw [stepF, if_neg h27, if_neg (by omega), if_neg (by omega), if_neg (by omega), if_neg (by omega), if_neg (by omega), if_neg (by omega), if_pos hs] at hF
  have HF := Lib.hid hF
  have HC := Lib.hid (psearch h0 hc ho.text HH.out HF.out)
  clear H hF h27 hs ho
  go_enter Try.func25, Try.ntmps25
  go_wp2_with fail
  refine HC.out.mono ?_
  rintro e w' ⟨rfl, h⟩
  have HE := Lib.hid h
  clear h
  go_wp2_with fail
  go_ret
  exact ⟨rfl, HE.out⟩
theorem pstep_2 {p : Nat} {c : Int} {s : PSt} (h0 : 0 ≤ c) (hc : c ≤ 255) (h27 : ¬ c = 27) (ho : s.ok) (hs : s.state = 2) (H : Owns w0 w (pobj p s :: R)) {r : Int} {s' : PSt} (hF : stepF s c = (r, s')) :
    Calls Try.prog 25 #[.pointer (some ⟨p, 0, none⟩), .int .u8 c] w (Ret (.int .i64 r) w0 (pobj p s' :: R)) := by
  have k0 : w.cell? ⟨p, 0, none⟩ = some (.int .i64 2) := by rw [← hs]; exact H.cell (j := 0) rfl
  have HH := Lib.hid H
  have e27 : (c == 27) = false := by rw [beq_eq_false_iff_ne]; exact h27
  have k := (H.alloc #[.int .u8 c] 5).p1.cell (j := 6) rfl
  have f := (H.alloc #[.int .u8 c] 5).p1.frozen 6
  have HO := Lib.hid (pgoes (s := { s with op := strg c }) 3 (Owns.pset (H.alloc #[.int .u8 c] 5).p1 { s with op := strg c } 6 (.string (strg c)) rfl))
  have hcv := fun a W h => conv_byte a c W h0 hc h
  have hsg := strg_eq
  rw [stepF, if_neg h27, if_neg (by omega), if_pos hs] at hF
  by_cases h3 : c = 126 ∨ c = 117 ∨ c = 85
  · have h3' : (c == 126 || c == 117 || c == 85) = true := by rcases h3 with rfl | rfl | rfl <;> rfl
    rw [h3', if_pos rfl] at hF
    cases hF
    clear H h27 hs ho h3' e27
    rcases h3 with rfl | rfl | rfl
    all_goals
      go_enter Try.func25, Try.ntmps25
      go_wp2_with fail
      refine HO.out.mono ?_
      rintro e w' ⟨rfl, h⟩
      have HE := Lib.hid h
      clear h
      go_wp2_with fail
      go_ret
      exact ⟨rfl, HE.out.p1.drop⟩
  · have e1 : (c == 126) = false := by rw [beq_eq_false_iff_ne]; omega
    have e2 : (c == 117) = false := by rw [beq_eq_false_iff_ne]; omega
    have e3 : (c == 85) = false := by rw [beq_eq_false_iff_ne]; omega
    rw [e1, e2, e3, Bool.or_self, Bool.or_self, if_neg (by simp)] at hF
    have HF := Lib.hid hF
    clear H hF h27 hs ho h3 HO k f
    go_enter Try.func25, Try.ntmps25
    go_wp2_with fail
    refine (pfar h0 hc HH.out HF.out).mono ?_
    rintro e w' ⟨rfl, h⟩
    have HE := Lib.hid h
    clear h
    go_wp2_with fail
    go_ret
    exact ⟨rfl, HE.out⟩
theorem pstep {p : Nat} {c : Int} {s : PSt} (h0 : 0 ≤ c) (hc : c ≤ 255) (ho : s.ok) (H : Owns w0 w (pobj p s :: R)) {r : Int} {s' : PSt} (hF : stepF s c = (r, s')) :
    Calls Try.prog 25 #[.pointer (some ⟨p, 0, none⟩), .int .u8 c] w (Ret (.int .i64 r) w0 (pobj p s' :: R)) := by
  by_cases h27 : c = 27
  · subst h27
    exact pstep_esc H hF
  · have a := ho.s0
    have b := ho.s7
    rcases (show s.state = 0 ∨ s.state = 1 ∨ s.state = 2 ∨ s.state = 3 ∨ s.state = 4 ∨ s.state = 5 ∨ s.state = 6 ∨ s.state = 7 by omega) with h | h | h | h | h | h | h | h
    · exact pstep_0 h0 hc h27 ho h H hF
    · exact pstep_1 h0 hc h27 ho h H hF
    · exact pstep_2 h0 hc h27 ho h H hF
    · exact pstep_3 h0 hc h27 ho h H hF
    · exact pstep_4 h0 hc h27 ho h H hF
    · exact pstep_5 h0 hc h27 ho h H hF
    · exact pstep_6 h0 hc h27 ho h H hF
    · exact pstep_7 h0 hc h27 ho h H hF
end
end Go.Proofs.Ythcamokblkjkkaa
