/- 'same' of two readings of one list of integers: true. -/
import Derived.Test.YtielhbhiallcpaaVecInt
import Derived.RegionTactic
import Derived.Deep.QuietTactic
import Derived.BigQuiet
import Derived.Handy
namespace Go.Proofs.Ytielhbhiallcpaa
open Go Go.RowKit Go.Fol
set_option linter.unusedVariables false
set_option linter.unusedSimpArgs false

set_option maxHeartbeats 1000000 in
theorem same_true (a b : Value) (l : List Int) (w : World) (ha : SrcV w 1 a l.length (ints l)) (hb : SrcV w 1 b l.length (ints l)) :
    Calls Try.prog 16 #[a, b] w fun e w' => e = .returned (.bool true) ∧ Chg [] w w' := by
  have hn63 := ha.n63
  obtain ⟨n, hn⟩ : ∃ n, n = l.length := ⟨_, rfl⟩
  rw [← hn] at ha hb hn63
  obtain ⟨aa, ac, rfl⟩ := ha.form
  obtain ⟨ba, bc, rfl⟩ := hb.form
  have Ha := Lib.hid ha
  have Hb := Lib.hid hb
  have Hn := Lib.hid hn
  clear ha hb hn
  go_enter Try.func16, Try.ntmps16
  go_wp2
  go_loopw [5] (fun i wr => ∃ k : Nat, k ≤ n ∧ i = .int .i64 k ∧ Chg [] w wr) (fun i _ => n - (intOf i).toNat)
  case atStart => exact ⟨0, Nat.zero_le _, rfl, Chg.refl _ _⟩
  case round =>
    obtain ⟨k, hk, rfl, hc⟩ := hrel
    by_cases hlt : k < n
    · obtain ⟨ab, ao, ac', h1, h2, _, h3⟩ := Ha.out.cells (by omega) (by omega)
      obtain ⟨bb, bo, bc', g1, g2, _, g3⟩ := Hb.out.cells (by omega) (by omega)
      cases h1
      cases g1
      have e := ints_get l (k := k) (by have := Hn.out; omega)
      have c1 := hc.cell (h3 k _ e) (by simp)
      have c2 := hc.cell (g3 k _ e) (by simp)
      have Hc := Lib.hid hc
      clear h3 g3 e hc
      generalize l[k]?.getD 0 = x at *
      go_wp2
      go_quiet (fail)
      go_wp2
      go_roundw
      case rel => exact ⟨k + 1, by omega, by go_num, Hc.out.drewN _⟩
      case measure => simp [intOf]; omega
    · go_wp2
      go_ret
      exact ⟨rfl, hc⟩
end Go.Proofs.Ytielhbhiallcpaa
