/- A parser of keys: names of registers, objects, arguments, patterns. -/
import Derived.Test.YthcamokblkjkkaaPF
namespace Go.Proofs.Ythcamokblkjkkaa
open Go Go.RowKit Go.Fol
attribute [local go_sem ↓] run_min2 run_max2
attribute [local go_sem ↓] Go.wp_at_zero Go.wp_at_succ
set_option linter.unusedVariables false
set_option linter.unusedSimpArgs false
def regB (c : Int) : Bool := (decide (97 ≤ c) && decide (c ≤ 122)) || (decide (65 ≤ c) && decide (c ≤ 90)) || (decide (48 ≤ c) && decide (c ≤ 57)) || c == 45 || c == 95 || c == 34
def nameF (s : PSt) (c : Int) : Int × PSt := if regB c then (0, { s with reg := c, state := 0 }) else (2, s)
def ctlF (c : Int) : ByteArray := if c == 22 then ⟨#[94, 86]⟩ else if c == 18 then ⟨#[94, 82]⟩ else if c == 15 then ⟨#[94, 79]⟩ else if c == 9 then ⟨#[94, 73]⟩ else ⟨#[]⟩
def objB (c : Int) : Int :=
  if c == 119 || c == 87 || c == 112 || c == 115 || c == 34 || c == 39 || c == 96 then c
  else if c == 40 || c == 41 || c == 98 then 40
  else if c == 91 || c == 93 then 91
  else if c == 123 || c == 125 || c == 66 then 123 else 0
def objF (s : PSt) (c : Int) : Int × PSt :=
  if c == 119 || c == 87 || c == 112 || c == 115 || c == 34 || c == 39 || c == 96 then (1, { s with arg := c })
  else if c == 40 || c == 41 || c == 98 then (1, { s with arg := 40 })
  else if c == 91 || c == 93 then (1, { s with arg := 91 })
  else if c == 123 || c == 125 || c == 66 then (1, { s with arg := 123 }) else (2, s)
def argB (t : List UInt8) (c : Int) : Bool := (t == [109] && !(decide (97 ≤ c) && decide (c ≤ 122)) && c != 96) || (t == [113] && !(decide (97 ≤ c) && decide (c ≤ 122))) || (t == [64] && !(decide (97 ≤ c) && decide (c ≤ 122)) && c != 64)
def argF (s : PSt) (c : Int) : Int × PSt := if argB s.name.toList c then (2, s) else (1, { s with arg := c })
def searchF (s : PSt) (c : Int) : Int × PSt :=
  if c == 13 then (1, s) else if c == 10 then (2, s)
  else if c == 8 || c == 127 then (if decide (s.text.size = 0) then (2, s) else (0, { s with text := s.text.extract 0 (s.text.size - 1) }))
  else if decide (s.text.size = 64) then (2, s) else (0, { s with text := s.text ++ str1 c })
section
variable {w0 w : World} {R : List Asrt}
theorem pname {p : Nat} {c : Int} {s : PSt} (H : Owns w0 w (pobj p s :: R)) {r : Int} {s' : PSt} (hF : nameF s c = (r, s')) :
    Calls Try.prog 39 #[.pointer (some ⟨p, 0, none⟩), .int .u8 c] w (Ret (.int .i64 r) w0 (pobj p s' :: R)) := by
  have k := H.cell (j := 4) rfl
  have f := H.frozen 4
  have H1 := Owns.pset H { s with reg := c } 4 (.int .u8 c) rfl
  have HC := Lib.hid (pgoes 0 H1)
  have HH := Lib.hid H
  have HF := Lib.hid hF
  clear H hF H1
  go_enter Try.func39, Try.ntmps39
  go_wp2_with fail
  all_goals try exact tf (by assumption) (by assumption)
  all_goals
    have hF := HF.out
    first
      | (rw [nameF, show regB c = true by simp [regB, *] <;> omega, if_pos rfl] at hF; cases hF
         refine HC.out.mono ?_; rintro e w' ⟨rfl, h⟩; have HE := Lib.hid h; clear h; go_wp2_with fail; go_ret; exact ⟨rfl, HE.out⟩)
      | (rw [nameF, show regB c = false by simp [regB, *] <;> omega, if_neg (by simp)] at hF; cases hF; go_ret; exact ⟨rfl, HH.out⟩)
theorem pctl (c : Int) (w : World) : Calls Try.prog 57 #[.int .u8 c] w fun e w' => e = .returned (.string (ctlF c)) ∧ w = w' := by
  obtain ⟨b, hb⟩ : ∃ b, b = ctlF c := ⟨_, rfl⟩
  rw [← hb]
  have Hb := Lib.hid hb
  clear hb
  go_enter Try.func57, Try.ntmps57
  go_wp2_with fail
  all_goals try exact tf (by assumption) (by assumption)
  all_goals
    have hF := Hb.out
    simp only [ctlF, *, if_true, if_false, Bool.false_eq_true] at hF
    subst hF
    go_ret
    exact ⟨rfl, rfl⟩
theorem pobject {p : Nat} {c : Int} {s : PSt} (H : Owns w0 w (pobj p s :: R)) {r : Int} {s' : PSt} (hF : objF s c = (r, s')) :
    Calls Try.prog 43 #[.pointer (some ⟨p, 0, none⟩), .int .u8 c] w (Ret (.int .i64 r) w0 (pobj p s' :: R)) := by
  have k := H.cell (j := 8) rfl
  have f := H.frozen 8
  have HS := Lib.hid (fun x => Owns.pset H { s with arg := x } 8 (.int .u8 x) rfl)
  have HH := Lib.hid H
  have HF := Lib.hid hF
  clear H hF
  go_enter Try.func43, Try.ntmps43
  go_wp2_with fail
  all_goals try exact tf (by assumption) (by assumption)
  all_goals
    have hF := HF.out
    simp only [objF, *, Bool.true_or, Bool.or_true, Bool.false_or, if_true, if_false, Bool.false_eq_true] at hF
    cases hF
    go_ret
    first | exact ⟨rfl, HH.out⟩ | exact ⟨rfl, HS.out _⟩
theorem psearch {p : Nat} {c : Int} {s : PSt} (h0 : 0 ≤ c) (hc : c ≤ 255) (ht : s.text.size ≤ 64) (H : Owns w0 w (pobj p s :: R)) {r : Int} {s' : PSt} (hF : searchF s c = (r, s')) :
    Calls Try.prog 45 #[.pointer (some ⟨p, 0, none⟩), .int .u8 c] w (Ret (.int .i64 r) w0 (pobj p s' :: R)) := by
  obtain ⟨t, hte⟩ : ∃ t, t = s.text := ⟨_, rfl⟩
  have k : w.cell? ⟨p, 9, none⟩ = some (.string t) := by rw [hte]; exact H.cell (j := 9) rfl
  have f := H.frozen 9
  have HS := Lib.hid (fun x => Owns.pset H { s with text := x } 9 (.string x) rfl)
  have HT := Lib.hid (fun x => Owns.pset ((H.alloc #[.int .u8 c] 5).p1) { s with text := x } 9 (.string x) rfl)
  have hcv := fun a W h => conv_byte a c W h0 hc h
  have HH := Lib.hid H
  rw [← hte] at ht
  rw [searchF, ← hte] at hF
  have HF := Lib.hid hF
  have hn64 : (t.size : Int) ≤ 64 := by omega
  have hs1 : (str1 c).size = 1 := rfl
  clear H hF hte
  by_cases h8 : c = 8 ∨ c = 127
  · by_cases h1 : t.size = 0
    · have g3 : ((t.size : Int) == 0) = true := by rw [beq_iff_eq]; omega
      have g1 : decide (t.size = 0) = true := by simpa using h1
      have G := Lib.hid g1
      clear h1 g1
      rcases h8 with rfl | rfl
      all_goals
        have hF := HF.out
        rw [G.out] at hF
        cases hF
        go_enter Try.func45, Try.ntmps45
        go_wp2_with fail
        go_ret
        exact ⟨rfl, HH.out⟩
    · have g3 : ((t.size : Int) == 0) = false := by rw [beq_eq_false_iff_ne]; omega
      have g1 : decide (t.size = 0) = false := by simpa using h1
      have g5 : (1 : Int) ≤ (t.size : Int) := by omega
      have g6 : ((t.size : Int) - 1).toNat = t.size - 1 := by omega
      have G := Lib.hid g1
      clear h1 g1
      rcases h8 with rfl | rfl
      all_goals
        have hF := HF.out
        rw [G.out] at hF
        cases hF
        go_enter Try.func45, Try.ntmps45
        go_wp2_with fail
        go_ret
        exact ⟨rfl, HS.out _⟩
  · have e8 : (c == 8) = false := by simp; omega
    have e127 : (c == 127) = false := by simp; omega
    clear h8
    by_cases h1 : t.size = 64
    · have g3 : ((t.size : Int) == 64) = true := by rw [beq_iff_eq]; omega
      have g1 : decide (t.size = 64) = true := by simpa using h1
      have G := Lib.hid g1
      clear h1 g1
      go_enter Try.func45, Try.ntmps45
      go_wp2_with fail
      all_goals try exact tf (by assumption) (by assumption)
      all_goals
        have hF := HF.out
        rw [G.out] at hF
        simp only [*, Bool.true_or, Bool.or_true, Bool.or_self, Bool.false_or, if_true, if_false, Bool.false_eq_true] at hF
        cases hF
        go_ret
        exact ⟨rfl, HH.out⟩
    · have g3 : ((t.size : Int) == 64) = false := by rw [beq_eq_false_iff_ne]; omega
      have g1 : decide (t.size = 64) = false := by simpa using h1
      have G := Lib.hid g1
      have hcat := fun w => run_string_add (P := Try.prog) w t (str1 c) (by omega) (by rw [hs1]; omega)
      clear h1 g1
      go_enter Try.func45, Try.ntmps45
      go_wp2_with fail
      all_goals try exact tf (by assumption) (by assumption)
      all_goals
        have hF := HF.out
        rw [G.out] at hF
        simp only [*, Bool.true_or, Bool.or_true, Bool.or_self, Bool.false_or, if_true, if_false, Bool.false_eq_true] at hF
        cases hF
      all_goals first | (go_ret; exact ⟨rfl, HH.out⟩) | skip
      have k2 := cell_alloc k (.cells #[.int .u8 c] 5)
      have f2 := (HH.out.alloc #[.int .u8 c] 5).p1.frozen 9
      go_region
      all_goals
        go_wp2_with fail
        go_ret
        exact ⟨rfl, (HT.out _).p1.drop.drew⟩
theorem pargument {p : Nat} {c : Int} {s : PSt} (H : Owns w0 w (pobj p s :: R)) {r : Int} {s' : PSt} (hF : argF s c = (r, s')) :
    Calls Try.prog 44 #[.pointer (some ⟨p, 0, none⟩), .int .u8 c] w (Ret (.int .i64 r) w0 (pobj p s' :: R)) := by
  obtain ⟨t, hte⟩ : ∃ t, t = s.name := ⟨_, rfl⟩
  have k : w.cell? ⟨p, 7, none⟩ = some (.string t) := by rw [hte]; exact H.cell (j := 7) rfl
  have k8 := H.cell (j := 8) rfl
  have f := H.frozen 8
  have HS := Lib.hid (Owns.pset H { s with arg := c } 8 (.int .u8 c) rfl)
  have HH := Lib.hid H
  rw [argF, ← hte] at hF
  obtain ⟨b, hb⟩ : ∃ b, b = argB t.toList c := ⟨_, rfl⟩
  have hF2 : (if b then (2, s) else (1, { s with arg := c })) = (r, s') := by rw [hb, hte]; rw [hte] at hF; exact hF
  have HF := Lib.hid hF2
  unfold argB at hb
  clear H hF hte hF2
  by_cases h1 : 97 ≤ c
  · by_cases h2 : c ≤ 122
    · simp only [h1, h2, decide_true, Bool.and_self, Bool.not_true, Bool.and_false, Bool.false_and, Bool.or_self] at hb
      subst hb
      have hF := HF.out
      cases hF
      clear HF
      go_enter Try.func44, Try.ntmps44
      go_wp2_with fail
      all_goals
        go_ret
        exact ⟨rfl, HS.out⟩
    · simp only [h1, h2, decide_true, decide_false, Bool.true_and, Bool.and_self, Bool.and_false, Bool.not_false, Bool.and_true] at hb
      have Hb := Lib.hid hb
      clear hb
      go_enter Try.func44, Try.ntmps44
      go_wp2_with fail
      all_goals
        have hb := Hb.out
        first | (replace hb : b = true := by rw [hb]; simp [*]) | (replace hb : b = false := by rw [hb]; simp [*])
        subst hb
        have hF := HF.out
        cases hF
        go_ret
        first | exact ⟨rfl, HS.out⟩ | exact ⟨rfl, HH.out⟩
  · simp only [h1, decide_false, Bool.false_and, Bool.not_false, Bool.and_true] at hb
    have Hb := Lib.hid hb
    clear hb
    go_enter Try.func44, Try.ntmps44
    go_wp2_with fail
    all_goals
      have hb := Hb.out
      first | (replace hb : b = true := by rw [hb]; simp [*]) | (replace hb : b = false := by rw [hb]; simp [*])
      subst hb
      have hF := HF.out
      cases hF
      go_ret
      first | exact ⟨rfl, HS.out⟩ | exact ⟨rfl, HH.out⟩
end
end Go.Proofs.Ythcamokblkjkkaa
