/- A parser of keys: motions, operands, commands. -/
import Derived.Test.YthcamokblkjkkaaPG
namespace Go.Proofs.Ythcamokblkjkkaa
open Go Go.RowKit Go.Fol
attribute [local go_sem ↓] run_min2 run_max2
attribute [local go_sem ↓] Go.wp_at_zero Go.wp_at_succ
set_option linter.unusedVariables false
set_option linter.unusedSimpArgs false
def motionF (s : PSt) (c : Int) : Int × PSt :=
  if c == 13 then (1, { s with name := ⟨#[43]⟩ }) else if c == 103 then (0, { s with state := 4 })
  else if c == 102 || c == 70 || c == 116 || c == 84 || c == 39 || c == 96 then (0, { s with name := str1 c, state := 6 })
  else if c == 47 || c == 63 then (0, { s with name := str1 c, state := 7 })
  else if simpleB c then (1, { s with name := str1 c }) else (2, s)
theorem motion_ix : ∀ n : Nat, n < 256 → motionB [UInt8.ofNat n] = ((n : Int) == 102 || (n : Int) == 70 || (n : Int) == 116 || (n : Int) == 84 || (n : Int) == 39 || (n : Int) == 96 || (n : Int) == 47 || (n : Int) == 63 || simpleB (n : Int)) := by decide +kernel
theorem motion_str1 {c : Int} (h0 : 0 ≤ c) (hc : c ≤ 255) : motionB (str1 c).toList = (c == 102 || c == 70 || c == 116 || c == 84 || c == 39 || c == 96 || c == 47 || c == 63 || simpleB c) := by
  have := motion_ix c.toNat (by omega)
  rw [Int.toNat_of_nonneg h0] at this
  rw [ByteArray.toList_eq]
  exact this
/-- The last byte of an operator. -/
def lastB (t : ByteArray) : Int := ((t.data.toList[t.size - 1]?).getD 0).toNat
def operandF (s : PSt) (c : Int) : Int × PSt :=
  if digB s.bany c then (0, { s with bn := dig s.bn c, bany := true }) else if c == lastB s.op then (1, { s with name := ⟨#[108, 105, 110, 101]⟩ })
  else if c == 105 || c == 97 then (0, { s with name := str1 c, state := 5 }) else motionF s c
theorem index_last (t : ByteArray) (h : 1 ≤ t.size) (w : World) : (Instr.index 9 (.string t) (.int .i64 ((t.size : Int) - 1))).run Try.prog w = .ok (.int .u8 (lastB t)) w := by
  rw [run_index_string (h := Try.underlying9), dif_pos ⟨by omega, by omega⟩]
  unfold lastB
  have h2 : t.size - 1 < t.data.toList.length := by simp; show _ < t.size; omega
  rw [List.getElem?_eq_getElem h2]
  congr 2
  simp
  rfl
section
variable {w0 w : World} {R : List Asrt}
theorem pmotion {p : Nat} {c : Int} {s : PSt} (h0 : 0 ≤ c) (hc : c ≤ 255) (H : Owns w0 w (pobj p s :: R)) {r : Int} {s' : PSt} (hF : motionF s c = (r, s')) :
    Calls Try.prog 56 #[.pointer (some ⟨p, 0, none⟩), .int .u8 c] w (Ret (.int .i64 r) w0 (pobj p s' :: R)) := by
  have HH := Lib.hid H
  have HF := Lib.hid hF
  have hcv := fun a W h => conv_byte a c W h0 hc h
  have HM := Lib.hid (motion_str1 h0 hc)
  clear H hF
  go_enter Try.func56, Try.ntmps56
  go_wp2_with fail
  all_goals try exact tf (by assumption) (by assumption)
  all_goals
    have hF := HF.out
    simp only [motionF, *, Bool.true_or, Bool.or_true, Bool.false_or, if_true, if_false, Bool.false_eq_true] at hF
    replace HF := Lib.hid hF
    clear hF
    first
      | ((with_reducible refine (pdone _ HH.out).mono ?_); rintro e w' ⟨rfl, h⟩; have HE := Lib.hid h; clear h; have hF := HF.out; cases hF; go_wp2_with fail; go_ret; exact ⟨rfl, HE.out⟩)
      | ((with_reducible refine (pgoes _ HH.out).mono ?_); rintro e w' ⟨rfl, h⟩; have HE := Lib.hid h; clear h; have hF := HF.out; cases hF; go_wp2_with fail; go_ret; exact ⟨rfl, HE.out⟩)
      | ((with_reducible refine (pnamed _ h0 hc HH.out).mono ?_); rintro e w' ⟨rfl, h⟩; have HE := Lib.hid h; clear h; have hF := HF.out; cases hF; go_wp2_with fail; go_ret; exact ⟨rfl, HE.out⟩)
      | skip
  refine (pMotion (str1 c) _ (by show (1 : Nat) ≤ 1000000; decide)).mono ?_
  rintro e w' ⟨rfl, rfl⟩
  have hm := HM.out
  simp only [*, Bool.false_or] at hm
  rw [hm]
  clear hm
  have H1 := HH.out.alloc #[.int .u8 c] 5
  cases hs : simpleB c with
  | true =>
    have hF := HF.out
    rw [hs, if_pos rfl] at hF
    cases hF
    have HD := Lib.hid (pdone (str1 c) H1.p1)
    clear H1 hs
    go_wp2_with fail
    refine HD.out.mono ?_
    rintro e w' ⟨rfl, h⟩
    have HE := Lib.hid h
    clear h
    go_wp2_with fail
    go_ret
    exact ⟨rfl, HE.out.p1.drop⟩
  | false =>
    have hF := HF.out
    rw [hs, if_neg (by simp)] at hF
    cases hF
    have HE := Lib.hid H1
    clear H1 hs
    go_wp2_with fail
    go_ret
    exact ⟨rfl, HE.out.drop⟩
theorem poperand {p : Nat} {c : Int} {s : PSt} (h0 : 0 ≤ c) (hc : c ≤ 255) (hb : s.bn ≤ 9999) (ho1 : 1 ≤ s.op.size) (ho2 : s.op.size ≤ 2) (H : Owns w0 w (pobj p s :: R)) {r : Int} {s' : PSt} (hF : operandF s c = (r, s')) :
    Calls Try.prog 42 #[.pointer (some ⟨p, 0, none⟩), .int .u8 c] w (Ret (.int .i64 r) w0 (pobj p s' :: R)) := by
  have HH := Lib.hid H
  have HF := Lib.hid hF
  obtain ⟨t, hte⟩ : ∃ t, t = s.op := ⟨_, rfl⟩
  have k : w.cell? ⟨p, 6, none⟩ = some (.string t) := by rw [hte]; exact H.cell (j := 6) rfl
  rw [← hte] at ho1 ho2
  have Hte := Lib.hid hte
  clear hte
  cases hd : digB s.bany c with
  | true =>
    have HC := Lib.hid (pdigB hd hb H)
    unfold operandF at hF
    rw [hd, if_pos rfl] at hF
    cases hF
    clear H hd
    go_enter Try.func42, Try.ntmps42
    go_wp2_with fail
    refine HC.out.mono ?_
    rintro e w' ⟨rfl, h⟩
    have HE := Lib.hid h
    clear h
    go_wp2_with fail
    go_ret
    exact ⟨rfl, HE.out⟩
  | false =>
    have HC := Lib.hid (pdigit_no (o := 12) (n := 0) hd (H.cell (j := 13) rfl))
    have i1 : (0 : Int) ≤ (t.size : Int) - 1 := by omega
    have i2 : (t.size : Int) - 1 < (t.size : Int) := by omega
    have i3 : ((t.size : Int) - 1).toNat = t.size - 1 := by omega
    have i5 := index_last t ho1
    have i4 : IntKind.i64.wrap ((t.size : Int) - 1) = (t.size : Int) - 1 := by rw [IntKind.wrap_i64]; omega
    unfold operandF at hF
    rw [hd, if_neg (by simp)] at hF
    clear H hd HF
    cases hl : (c == lastB t) with
    | true =>
      rw [show (c == lastB s.op) = true by rw [← Hte.out]; exact hl, if_pos rfl] at hF
      cases hF
      have HX := Lib.hid hl
      go_enter Try.func42, Try.ntmps42
      go_wp2_with fail
      refine HC.out.mono ?_
      rintro e w' ⟨rfl, rfl⟩
      go_wp2_with fail
      go_quiet (fail)
      go_wp2_with fail
      refine (pdone _ (HH.out.drewN _)).mono ?_
      rintro e w' ⟨rfl, h⟩
      have HE := Lib.hid h
      clear h
      go_wp2_with fail
      go_ret
      exact ⟨rfl, HE.out⟩
    | false =>
      rw [show (c == lastB s.op) = false by rw [← Hte.out]; exact hl, if_neg (by simp)] at hF
      by_cases h5 : c = 105 ∨ c = 97
      · have h5' : (c == 105 || c == 97) = true := by rcases h5 with rfl | rfl <;> rfl
        rw [h5', if_pos rfl] at hF
        cases hF
        clear h5'
        rcases h5 with rfl | rfl
        all_goals
          go_enter Try.func42, Try.ntmps42
          go_wp2_with fail
          refine HC.out.mono ?_
          rintro e w' ⟨rfl, rfl⟩
          go_wp2_with fail
          go_quiet (fail)
          go_wp2_with fail
          refine (pnamed _ h0 hc (HH.out.drewN _)).mono ?_
          rintro e w' ⟨rfl, h⟩
          have HE := Lib.hid h
          clear h
          go_wp2_with fail
          go_ret
          exact ⟨rfl, HE.out⟩
      · have e1 : (c == 105) = false := by rw [beq_eq_false_iff_ne]; omega
        have e2 : (c == 97) = false := by rw [beq_eq_false_iff_ne]; omega
        rw [e1, e2, Bool.or_self, if_neg (by simp)] at hF
        have HF := Lib.hid hF
        clear hF h5
        go_enter Try.func42, Try.ntmps42
        go_wp2_with fail
        refine HC.out.mono ?_
        rintro e w' ⟨rfl, rfl⟩
        go_wp2_with fail
        go_quiet (fail)
        go_wp2_with fail
        refine (pmotion h0 hc (HH.out.drewN _) HF.out).mono ?_
        rintro e w' ⟨rfl, h⟩
        have HE := Lib.hid h
        clear h
        go_wp2_with fail
        go_ret
        exact ⟨rfl, HE.out⟩
end
end Go.Proofs.Ythcamokblkjkkaa
