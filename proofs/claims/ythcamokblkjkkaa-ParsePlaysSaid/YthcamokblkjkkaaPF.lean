/- A parser of keys: digits, counts, what each function of the program answers. -/
import Derived.Test.YthcamokblkjkkaaPM
namespace Go.Proofs.Ythcamokblkjkkaa
open Go Go.RowKit Go.Fol
attribute [local go_sem ↓] run_min2 run_max2
attribute [local go_sem ↓] Go.wp_at_zero Go.wp_at_succ
set_option linter.unusedVariables false
set_option linter.unusedSimpArgs false
/-- A number behind a digit. -/
def dig (n : Nat) (c : Int) : Nat := min (10 * n + (c - 48).toNat) 9999
theorem dig_le (n : Nat) (c : Int) : dig n c ≤ 9999 := Nat.min_le_right _ _
/-- Is it a digit? -/
def digB (any : Bool) (c : Int) : Bool := decide (48 ≤ c) && decide (c ≤ 57) && !(c == 48 && !any)
section
variable {w0 w : World} {R : List Asrt}
theorem pdigit_yes {q o : Nat} {n : Nat} {any : Bool} {c : Int} (hd : digB any c = true) (hn : n ≤ 9999) (k0 : w.cell? ⟨q, o, none⟩ = some (.int .i64 n)) (k1 : w.cell? ⟨q, o + 1, none⟩ = some (.bool any)) (f0 : w.frozen? ⟨q, o, none⟩ = false) (f1 : w.frozen? ⟨q, o + 1, none⟩ = false)
    (e1 : (w.setCell ⟨q, o, none⟩ (.int .i64 (dig n c))).cell? ⟨q, o + 1, none⟩ = some (.bool any)) (g1 : (w.setCell ⟨q, o, none⟩ (.int .i64 (dig n c))).frozen? ⟨q, o + 1, none⟩ = false) :
    Calls Try.prog 46 #[.pointer (some ⟨q, o, none⟩), .int .u8 c] w fun e w' => e = .returned (.bool true) ∧ w' = (w.setCell ⟨q, o, none⟩ (.int .i64 (dig n c))).setCell ⟨q, o + 1, none⟩ (.bool true) := by
  have h1 : 48 ≤ c := by simp [digB] at hd; omega
  have h2 : c ≤ 57 := by simp [digB] at hd; omega
  have hmin : min (10 * (n : Int) + (c - 48)) 9999 = ((dig n c : Nat) : Int) := by unfold dig; omega
  have hl : ¬ (c < 48) := by omega
  have hg : ¬ (57 < c) := by omega
  by_cases hc : c = 48
  · subst hc
    have hany : any = true := by simpa [digB] using hd
    subst hany
    have hmin48 : min (10 * (n : Int)) 9999 = ((dig n 48 : Nat) : Int) := by unfold dig; omega
    clear hd hl hg hmin
    go_enter Try.func46, Try.ntmps46
    go_wp2_with fail
    go_ret
    exact ⟨rfl, rfl⟩
  · have hcb : (c == 48) = false := by simpa using hc
    clear hd hc
    go_enter Try.func46, Try.ntmps46
    go_wp2_with fail
    go_ret
    exact ⟨rfl, rfl⟩
theorem pdigit_no {q o : Nat} {n : Nat} {any : Bool} {c : Int} (hd : digB any c = false) (k1 : w.cell? ⟨q, o + 1, none⟩ = some (.bool any)) :
    Calls Try.prog 46 #[.pointer (some ⟨q, o, none⟩), .int .u8 c] w fun e w' => e = .returned (.bool false) ∧ w = w' := by
  by_cases h1 : c < 48
  · clear hd
    go_enter Try.func46, Try.ntmps46
    go_wp2_with fail
    go_ret
    exact ⟨rfl, rfl⟩
  · by_cases h2 : 57 < c
    · clear hd
      go_enter Try.func46, Try.ntmps46
      go_wp2_with fail
      go_ret
      exact ⟨rfl, rfl⟩
    · obtain ⟨rfl, rfl⟩ : c = 48 ∧ any = false := by simp [digB] at hd; exact hd (by omega) (by omega)
      clear hd h1 h2
      go_enter Try.func46, Try.ntmps46
      go_wp2_with fail
      go_ret
      exact ⟨rfl, rfl⟩
theorem pdigA {p : Nat} {c : Int} {s : PSt} (hd : digB s.aany c = true) (hn : s.an ≤ 9999) (H : Owns w0 w (pobj p s :: R)) :
    Calls Try.prog 46 #[.pointer (some ⟨p, 10, none⟩), .int .u8 c] w (Ret (.bool true) w0 (pobj p { s with an := dig s.an c, aany := true } :: R)) := by
  have H1 := Owns.pset H { s with an := dig s.an c } 10 (.int .i64 (dig s.an c)) rfl
  have H2 := Owns.pset H1 { s with an := dig s.an c, aany := true } 11 (.bool true) rfl
  refine (pdigit_yes (o := 10) hd hn (H.cell (j := 10) rfl) (H.cell (j := 11) rfl) (H.frozen 10) (H.frozen 11) (H1.cell (j := 11) rfl) (H1.frozen 11)).mono ?_
  rintro e w' ⟨rfl, rfl⟩
  exact ⟨rfl, H2⟩
theorem pdigB {p : Nat} {c : Int} {s : PSt} (hd : digB s.bany c = true) (hn : s.bn ≤ 9999) (H : Owns w0 w (pobj p s :: R)) :
    Calls Try.prog 46 #[.pointer (some ⟨p, 12, none⟩), .int .u8 c] w (Ret (.bool true) w0 (pobj p { s with bn := dig s.bn c, bany := true } :: R)) := by
  have H1 := Owns.pset H { s with bn := dig s.bn c } 12 (.int .i64 (dig s.bn c)) rfl
  have H2 := Owns.pset H1 { s with bn := dig s.bn c, bany := true } 13 (.bool true) rfl
  refine (pdigit_yes (o := 12) hd hn (H.cell (j := 12) rfl) (H.cell (j := 13) rfl) (H.frozen 12) (H.frozen 13) (H1.cell (j := 13) rfl) (H1.frozen 13)).mono ?_
  rintro e w' ⟨rfl, rfl⟩
  exact ⟨rfl, H2⟩
/-- The product of both numbers. -/
def countF (s : PSt) : Nat := if s.aany && s.bany then min (s.an * s.bn) 9999 else if s.aany then s.an else s.bn
theorem pcount {p : Nat} {s : PSt} (ha : s.an ≤ 9999) (hb : s.bn ≤ 9999) (H : Owns w0 w (pobj p s :: R)) :
    Calls Try.prog 26 #[.pointer (some ⟨p, 0, none⟩)] w (Ret (.int .i64 (countF s)) w0 (pobj p s :: R)) := by
  have HH := Lib.hid H
  have k10 : w.cell? ⟨p, 10, none⟩ = some (.int .i64 s.an) := H.cell (j := 10) rfl
  have k11 : w.cell? ⟨p, 11, none⟩ = some (.bool s.aany) := H.cell (j := 11) rfl
  have k12 : w.cell? ⟨p, 12, none⟩ = some (.int .i64 s.bn) := H.cell (j := 12) rfl
  have k13 : w.cell? ⟨p, 13, none⟩ = some (.bool s.bany) := H.cell (j := 13) rfl
  obtain ⟨n, hF⟩ : ∃ n, n = countF s := ⟨_, rfl⟩
  rw [← hF]
  unfold countF at hF
  clear H
  generalize s.an = a at *
  generalize s.bn = b at *
  cases h1 : s.aany <;> cases h2 : s.bany <;> rw [h1, h2] at hF <;> rw [h1] at k11 <;> rw [h2] at k13
  · replace hF : n = b := hF
    subst hF
    clear h1 h2
    go_enter Try.func26, Try.ntmps26
    go_wp2_with fail
    go_ret
    exact ⟨rfl, HH.out⟩
  · replace hF : n = b := hF
    subst hF
    clear h1 h2
    go_enter Try.func26, Try.ntmps26
    go_wp2_with fail
    go_ret
    exact ⟨rfl, HH.out⟩
  · replace hF : n = a := hF
    subst hF
    clear h1 h2
    go_enter Try.func26, Try.ntmps26
    go_wp2_with fail
    go_ret
    exact ⟨rfl, HH.out⟩
  · replace hF : n = min (a * b) 9999 := hF
    have hm : a * b ≤ 9999 * 9999 := Nat.mul_le_mul ha hb
    have hmul : IntKind.i64.wrap ((a : Int) * (b : Int)) = (a : Int) * (b : Int) := by
      rw [IntKind.wrap_i64]
      rw [← Int.natCast_mul]; omega
    have HF := Lib.hid hF
    have He := Lib.hid (show ((min (a * b) 9999 : Nat) : Int) = min ((a : Int) * b) 9999 by rw [← Int.natCast_mul]; omega)
    clear h1 h2 hF hm
    go_enter Try.func26, Try.ntmps26
    go_wp2_with fail
    go_quiet (fail)
    go_wp2_with fail
    go_ret
    exact ⟨by rw [HF.out, He.out]; rfl, HH.out.drewN _⟩
end
end Go.Proofs.Ythcamokblkjkkaa
