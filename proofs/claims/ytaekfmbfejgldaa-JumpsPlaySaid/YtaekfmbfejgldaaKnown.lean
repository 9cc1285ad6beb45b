/- The example of the laws on jumps holds. -/
import Derived.Test.YtaekfmbfejgldaaJA
namespace Go.Proofs.Ytaekfmbfejgldaa
open Go Go.RowKit Go.Fol
set_option linter.unusedVariables false
set_option linter.unusedSimpArgs false
section
variable {w0 w : World} {R : List Asrt}
set_option maxHeartbeats 1000000 in
theorem known_true (H : Owns w0 w R) : Calls Try.prog 6 #[] w (Ret (.bool true) w0 R) := by
  have HH := Lib.hid H
  clear H
  go_enter Try.func6, Try.ntmps6
  go_wp2_with fail
  refine (jnew HH.out).mono ?_
  rintro e w1 ⟨j, rfl, h1⟩
  have H1 := Lib.hid h1
  clear h1
  go_wp2_with fail
  refine (jpush 1 0 H1.out (by decide) (by decide)).mono ?_
  rintro e w2 ⟨rfl, h2⟩
  have H2 := Lib.hid (show Owns w0 w2 (Asrt.jumps j [(1, 0)] 1 :: R) from h2)
  clear h2
  go_wp2_with fail
  refine (jolder_end (b := 0) (q := (1, 0)) 5 0 1 H2.out (by decide) (by decide) (by decide) (by decide) rfl).mono ?_
  rintro e w3 ⟨rfl, h3⟩
  have H3 := Lib.hid (show Owns w0 w3 (Asrt.jumps j [(1, 0), (5, 0)] 0 :: R) from h3)
  clear h3
  go_wp2_with fail
  refine (jnewer_in (b := 1) (q := (5, 0)) 1 (H3.out.alloc _ _).p1 (by decide) (by decide) (by decide) (by decide) (by decide) rfl).mono ?_
  rintro e w4 ⟨rfl, h4⟩
  have H4 := Lib.hid h4
  clear h4
  go_wp2_with fail
  refine (jnewer_out 1 (H4.out.alloc _ _).p1 (by decide) (by decide) (by decide)).mono ?_
  rintro e w5 ⟨rfl, h5⟩
  have H5 := Lib.hid h5
  clear h5
  go_wp2_with fail
  refine (jall (H5.out.alloc _ _).p1 (by decide)).mono ?_
  rintro e w6 ⟨s, rfl, h6⟩
  have H6 := Lib.hid h6
  obtain ⟨sa, sc, rfl⟩ := row_slice h6.p1.row
  have k1 := (h6.ord [4]).cell (j := 0) rfl
  have k2 := (h6.ord [3]).cell (j := 0) rfl
  clear h6
  go_wp2_with fail
  go_ret
  exact ⟨rfl, H6.out.drop.drop.drop.drop.drop⟩
end
end Go.Proofs.Ytaekfmbfejgldaa
