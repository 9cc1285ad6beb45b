/- Lists of jumps: what stands in memory. -/
import Derived.Test.YtaekfmbfejgldaaVecPPos
import Derived.Test.YtaekfmbfejgldaaFlat
import Derived.Handy
import Derived.Deep.RegionHeld3
import Derived.Deep.DrawnRows
import Derived.Deep.QuietTactic
import Derived.BigQuiet
import Derived.StillTailTactics
import Derived.Deep.DeepCutAuto
import Derived.Deep.CutBlock
namespace Go.Proofs.Ytaekfmbfejgldaa
open Go Go.RowKit Go.Fol
set_option linter.unusedVariables false
set_option linter.unusedSimpArgs false
/-- a vector of places. -/
abbrev posvec (v : Nat) (L : List (Int × Int)) : Asrt := vec_pos v L.length (poss L)
/-- a list of jumps. -/
abbrev jobj (j v : Nat) (at_ : Int) : Asrt := Asrt.obj j (.cells #[.pointer (some ⟨v, 0, none⟩), .int .i64 at_] 51 (0, 0))
def Asrt.jumps (j : Nat) (L : List (Int × Int)) (at_ : Nat) : Asrt := Asrt.ex fun v => Asrt.all [jobj j v at_, posvec v L]
section
variable {w0 w : World} {R : List Asrt}
theorem jumpsE {j : Nat} {L : List (Int × Int)} {at_ : Nat} (H : Owns w0 w (Asrt.jumps j L at_ :: R)) : ∃ v, Owns w0 w (jobj j v at_ :: posvec v L :: R) := by
  obtain ⟨v, h⟩ := H.exE
  exact ⟨v, Owns.allE (L := [_, _]) h⟩
theorem jumpsI {j v : Nat} {L : List (Int × Int)} {at_ : Nat} (H : Owns w0 w (jobj j v at_ :: posvec v L :: R)) : Owns w0 w (Asrt.jumps j L at_ :: R) := Owns.exI v (Owns.allI (L := [_, _]) H)
theorem are_poss (L : List (Int × Int)) : are_pos (poss L) L.length := fun i hi => ⟨L[i].1, L[i].2, poss_get (List.getElem?_eq_getElem hi)⟩
theorem jnew (H : Owns w0 w R) : Calls Try.prog 7 #[] w (RetX (fun j : Nat => .pointer (some ⟨j, 0, none⟩)) w0 (fun j => Asrt.jumps j [] 0 :: R)) := by
  have HH := Lib.hid H
  have hc := o_new_pos (.slice none 0 0) 0 [] H Reads.nil (by simp) (by omega)
  clear H
  go_enter Try.func7, Try.ntmps7
  go_wp2_with fail
  refine hc.mono ?_
  rintro e w1 ⟨v, rfl, h1⟩
  have H1 := Lib.hid h1
  clear h1 hc
  go_wp2_with fail
  go_ret
  exact ⟨_, rfl, jumpsI (v := v) (L := []) (H1.out.alloc _ _)⟩
end
end Go.Proofs.Ytaekfmbfejgldaa
