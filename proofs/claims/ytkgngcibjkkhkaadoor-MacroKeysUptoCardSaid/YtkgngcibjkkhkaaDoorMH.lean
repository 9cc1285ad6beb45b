/- Registers held against one another; how the statements count a bool. -/
import Derived.Test.YtkgngcibjkkhkaaDoorMV
namespace Go.Proofs.YtkgngcibjkkhkaaDoor
open Go Go.RowKit Go.Fol
attribute [local go_sem ↓] Go.wp_at_zero Go.wp_at_succ
set_option linter.unusedVariables false
set_option linter.unusedSimpArgs false
section
variable {w0 w : World} {R : List Asrt}
set_option maxHeartbeats 1000000 in
theorem hstrings {va vb : Value} {A : List ByteArray} (H : Owns w0 w R) (ha : Reads w0 R 1 va A.length (strs A)) (hb : Reads w0 R 1 vb A.length (strs A)) :
    Calls Tryd.prog 30 #[va, vb] w (Ret (.bool true) w0 R) := by
  obtain ⟨aa, ac, rfl⟩ := (ha w H).form
  obtain ⟨ba, bc, rfl⟩ := (hb w H).form
  have hn63 := (ha w H).n63
  obtain ⟨n, hn⟩ : ∃ n, n = A.length := ⟨_, rfl⟩
  rw [← hn] at ha hb hn63 ⊢
  have HH := Lib.hid H
  have Ha := Lib.hid ha
  have Hb := Lib.hid hb
  have Hn := Lib.hid hn
  clear H ha hb hn
  go_enter Tryd.func30, Tryd.ntmps30
  go_wp2_with fail
  go_loopw [5] (fun q wr => ∃ i : Nat, i ≤ n ∧ q = .int .i64 i ∧ Owns w0 wr R) (fun q _ => n - (intOf q).toNat)
  case atStart => exact ⟨0, Nat.zero_le _, rfl, HH.out⟩
  case round =>
    obtain ⟨i, hi, rfl, hr⟩ := hrel
    have Hr := Lib.hid hr
    by_cases hlt : i < n
    · obtain ⟨ab, ao, ac', e1, hac, _, hace⟩ := (Ha.out wr hr).cells (by omega) (by decide)
      cases e1
      obtain ⟨bb, bo, bc', e2, hbc, _, hbce⟩ := (Hb.out wr hr).cells (by omega) (by decide)
      cases e2
      have hs := strs_get A (k := i) (by have := Hn.out; omega)
      have ca := hace i _ hs
      have cb := hbce i _ hs
      clear hace hbce hs hr
      generalize A[i]?.getD ⟨#[]⟩ = s at *
      go_wp2
      go_quiet (fail)
      go_wp2
      go_roundw
      case rel => exact ⟨i + 1, by omega, by go_num, Hr.out.drewN _⟩
      case measure => simp [intOf]; omega
    · go_wp2
      go_ret
      exact ⟨rfl, Hr.out⟩
theorem hreg {k : Int} {va vb : Value} {A : List ByteArray} (H : Owns w0 w R) (ha : Reads w0 R 1 va A.length (strs A)) (hb : Reads w0 R 1 vb A.length (strs A)) :
    Calls Tryd.prog 17 #[.agg #[.int .i64 k, va], .agg #[.int .i64 k, vb]] w (Ret (.bool true) w0 R) := by
  have H1 := (H.alloc #[.int .i64 k, va] 33).alloc #[.int .i64 k, vb] 33
  rw [World.size_alloc] at H1
  have k1 := H1.p1.cell (j := 1) rfl
  have k2 := H1.cell (j := 1) rfl
  have k3 := H1.p1.cell (j := 0) rfl
  have k4 := H1.cell (j := 0) rfl
  have c1 := hstrings H1 ha.cons.cons hb.cons.cons
  have C1 := Lib.hid c1
  clear H ha hb H1 c1
  go_enter Tryd.func17, Tryd.ntmps17
  go_wp2_with fail
  refine C1.out.mono ?_
  rintro e w1 ⟨rfl, h1⟩
  have H2 := Lib.hid h1.drop.drop
  clear h1 C1
  go_wp2_with fail
  go_ret
  exact ⟨rfl, H2.out⟩
theorem wboolean (b : Bool) : Calls Tryd.prog 26 #[.bool b] w fun e w' => e = .returned (.int .i64 (if b then 1 else 0)) ∧ w = w' := by
  cases b
  all_goals
    go_enter Tryd.func26, Tryd.ntmps26
    go_wp2_with fail
    go_ret
    exact ⟨rfl, rfl⟩
end
end Go.Proofs.YtkgngcibjkkhkaaDoor
