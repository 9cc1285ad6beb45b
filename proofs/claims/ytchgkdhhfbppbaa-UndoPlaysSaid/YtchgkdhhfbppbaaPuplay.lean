/- The statement UndoPlays: for every input the law returns true, and the input reads as it did. No condition. -/
import Derived.Test.YtchgkdhhfbppbaaRows
import Derived.Test.YtchgkdhhfbppbaaRead
import Derived.Test.YtchgkdhhfbppbaaWuplay
namespace Go.Proofs.Ytchgkdhhfbppbaa.lawUndoPlays
open Go.ChangeShapes Go.WideShapes Go.ChangeAt Go.RowKit Go.Fol
set_option linter.unusedVariables false
theorem own : ownKnob Try.prog.godebug = none := by kernel_rfl
theorem laidOut : laidOutB Try.prog = true := by kernel_rfl
set_option maxRecDepth 100000 in
theorem lifted (os : Os) (started : os.Started) (H : Type) (enc : TypeId × Value → H) :
    ReturnsInHanded {} Try.checked os 3 .any (Rows.undoPlaysSpec.pre6 enc Try.prog Try.f3 Rows.undoPlaysRow.domain false) (Rows.undoPlaysSpec.post enc Try.prog Try.f3 false true false false) := by
  refine returnsInHanded_of_change_sized (C := Try.checked) own started (by kernel_rfl) Try.func3
    (ChangeSpec.witness6 (enc := enc) (C := Try.checked) false ⟨#[], #[(.slice none 0 0)], []⟩ 8 (by kernel_rfl) (by kernel_rfl) (by kernel_rfl) (by kernel_rfl)) ?_
  intro W base args ds gs before hval0 hW hcnd hsz _
  have hW' := hW
  obtain ⟨p, q, hA0, hV, hpq, hfz, hnd⟩ := hW
  have hA : DataW.TrodAll enc Try.prog W 0 (fun _ => true) true Try.f3.params.toList args.toList ds p := hA0
  rw [Try.params3] at hA
  have hval : ∀ (j : Nat) t v, [22][j]? = some t → args.toList[j]? = some v → Value.okWide Try.prog W .any base t v := fun j t v ht hv => hval0 j t v (by show Try.f3.params[j]? = some t; rw [Try.params3]; simpa using ht) (by simpa using hv)
  have hw : ∀ x ∈ DataW.weightsEach Try.prog [22] ds, x ≤ reachBytes := by
    obtain ⟨rfl, _⟩ := trodVars_none hV
    have e := List.all_eq_true.1 hsz
    intro x hx
    have := e x (by
      show x ∈ DataW.weightsEach Try.prog (Try.f3.params.toList ++ []) (ds ++ [])
      rw [Try.params3]
      simpa using hx)
    simpa using this
  have hargs := args_of hA hw hval
  clear hval hw hval0 hA0 hsz hcnd
  obtain ⟨rfl, _⟩ := trodVars_none hV
  obtain ⟨v0, vs0, d0, ds0, p0, q0, hargs0, rfl, rfl, h0, r0⟩ := trodAll_cons hA
  obtain ⟨rfl, rfl, rfl⟩ := trodAll_nil r0
  obtain rfl : args = #[v0] := by cases args; simp_all
  obtain ⟨a0, _⟩ := hargs
  exact law_end laidOut (by show Try.f3.params.toList = [22]; rw [Try.params3]) (by kernel_rfl) Try.underlying4 (by kernel_rfl) rfl hW' rfl (undoPlays_walk W v0 a0)

theorem over : Rows.undoPlaysRow.holds Try.pinned (OpenSpec.ofChange Rows.undoPlaysSpec) :=
  OpenClaim.holds_of_wide 3 Try.f3 rfl rfl rfl rfl rfl rfl rfl ⟨rfl, rfl, rfl, rfl, rfl⟩ rfl rfl rfl rfl rfl (by kernel_rfl) Try.func3 (by kernel_rfl)
    (of_decide_eq_true (by kernel_rfl)) (by unfold Func.isWrapper; first | (rw [if_pos (by decide +kernel)]; kernel_rfl) | (rw [if_neg (by decide +kernel)]; exact ⟨rfl, rfl⟩))
    (fun os started H enc _ => lifted os started H enc)
theorem proved : Rows.UndoPlaysSaid := over
#print axioms proved
end Go.Proofs.Ytchgkdhhfbppbaa.lawUndoPlays

