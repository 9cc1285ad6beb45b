/- The statement BufChanges: for every input the law returns true, and the input reads as it did; the listed variables tied to the program's text. No other condition. -/
import Derived.Test.YtcdoomlagmddcaaGreatDoorCards
import Derived.Test.YtcdoomlagmddcaaGreatDoorTie
import Derived.Test.YtcdoomlagmddcaaGreatDoorRead
import Derived.Deep.DeepHandedRow
import Derived.Lib.LaidTab
import Derived.Test.YtcdoomlagmddcaaGreatDoorWchg
namespace Go.Proofs.YtcdoomlagmddcaaGreatDoor.lawBufChanges
open Go.ChangeShapes Go.WideShapes Go.ChangeAt Go.RowKit Go.Fol
set_option linter.unusedVariables false
theorem own : ownKnob Tryz.prog.godebug = none := by kernel_rfl
theorem laidOut : laidOutB Tryz.prog = true := by kernel_rfl
def holds (cs : Array Value) : Obj → Obj
  | .cells _ t frozen => .cells cs t frozen
  | o => o
/-- A world for the witness: the settled one, the listed variables holding what their initialisers lay. -/
noncomputable def laidWorld (os : Os) : World :=
  { World.holding Tryz.prog os ⟨#[], #[], []⟩ with heap := (((World.holding Tryz.prog os ⟨#[], #[], []⟩).heap.modify 2 (holds (#[.int .u8 128, .int .u8 191, .int .u8 160, .int .u8 191, .int .u8 128, .int .u8 159, .int .u8 144, .int .u8 191, .int .u8 128, .int .u8 143, .int .u8 0, .int .u8 0, .int .u8 0, .int .u8 0, .int .u8 0, .int .u8 0, .int .u8 0, .int .u8 0, .int .u8 0, .int .u8 0, .int .u8 0, .int .u8 0, .int .u8 0, .int .u8 0, .int .u8 0, .int .u8 0, .int .u8 0, .int .u8 0, .int .u8 0, .int .u8 0, .int .u8 0, .int .u8 0]))).modify 1 (holds ((Go.Pinned.utf8FirstZ.map (fun (z : Nat) => Value.int .u8 (z : Int))).toArray))) }
theorem laid_met (os : Os) : laidMet Tryz.prog Rows.bufChangesRow.laid ((laidWorld os).forCall (fun _ _ => 0) ⟨#[], #[(.slice none 0 0), (.int .u8 0), (.int .u8 0), (.slice none 0 0)], []⟩).memory :=
  laidMet_of_run' 8 (by kernel_rfl) (by kernel_rfl)
theorem reads (os : Os) {H : Type} (enc : TypeId × Value → H) : ∃ places, DataW.whole enc Tryz.prog ((laidWorld os).forCall (fun _ _ => 0) ⟨#[], #[(.slice none 0 0), (.int .u8 0), (.int .u8 0), (.slice none 0 0)], []⟩).memory Tryz.f5.params.toList Rows.bufChangesSpec.vars false (#[(.slice none 0 0), (.int .u8 0), (.int .u8 0), (.slice none 0 0)] : Array Value).toList 8 = some ([.nil, (.lit (.int .u8 0)), (.lit (.int .u8 0)), .nil], [], places) :=
  ⟨[], by kernel_rfl⟩
set_option maxRecDepth 100000 in
theorem lifted (os : Os) (started : os.Started) (H : Type) (enc : TypeId × Value → H) (F : Stop.Interp) :
    ReturnsInHanded {} Tryz.checked os 5 .any ((OpenSpec.ofChange Rows.bufChangesSpec).preRow enc Tryz.prog Tryz.f5 Rows.bufChangesRow.domain false Rows.bufChangesRow.laid) (((OpenSpec.ofChange Rows.bufChangesSpec).at F).post enc Tryz.prog Tryz.f5 false true false false) := by
  obtain ⟨places, hx⟩ := reads os enc
  refine returnsInHanded_of_row (C := Tryz.checked) (s := OpenSpec.ofChange Rows.bufChangesSpec) own started (by kernel_rfl) Tryz.func5
    (witness_row_at (enc := enc) (C := Tryz.checked) false (laidWorld os) #[(.slice none 0 0), (.int .u8 0), (.int .u8 0), (.slice none 0 0)] rfl (by kernel_rfl) (by kernel_rfl) (by kernel_rfl)
      (OpenSpec.preRow_of_cond 8 hx (by kernel_rfl) (fun k hk => by cases hk) (by kernel_rfl) (laid_met os))) ?_
  intro W base args ds gs before hval0 hW hcnd hcond hsz hL hSh _
  have hW' := hW
  obtain ⟨p, q, hA0, hV, hpq, hfz, hnd⟩ := hW
  have hA : DataW.TrodAll enc Tryz.prog W 0 (fun _ => true) true Tryz.f5.params.toList args.toList ds p := hA0
  rw [Tryz.params5] at hA
  have hval : ∀ (j : Nat) t v, [22, 5, 5, 22][j]? = some t → args.toList[j]? = some v → Value.okWide Tryz.prog W .any base t v := fun j t v ht hv => hval0 j t v (by show Tryz.f5.params[j]? = some t; rw [Tryz.params5]; simpa using ht) (by simpa using hv)
  have hw : ∀ x ∈ DataW.weightsEach Tryz.prog [22, 5, 5, 22] ds, x ≤ reachBytes := by
    obtain ⟨rfl, _⟩ := trodVars_none hV
    have e := List.all_eq_true.1 hsz
    intro x hx
    have := e x (by
      show x ∈ DataW.weightsEach Tryz.prog (Tryz.f5.params.toList ++ []) (ds ++ [])
      rw [Tryz.params5]
      simpa using hx)
    simpa using this
  have hargs := args_of hA hw hval
  obtain ⟨rfl, _⟩ := trodVars_none hV
  clear hval hw hval0 hA0 hsz hcnd hcond
  obtain ⟨v0, vs0, d0, ds0, p0, q0, hargs0, rfl, rfl, h0, r0⟩ := trodAll_cons hA
  obtain ⟨v1, vs1, d1, ds1, p1, q1, rfl, rfl, rfl, h1, r1⟩ := trodAll_cons r0
  obtain ⟨v2, vs2, d2, ds2, p2, q2, rfl, rfl, rfl, h2, r2⟩ := trodAll_cons r1
  obtain ⟨v3, vs3, d3, ds3, p3, q3, rfl, rfl, rfl, h3, r3⟩ := trodAll_cons r2
  obtain ⟨rfl, rfl, rfl⟩ := trodAll_nil r3
  obtain rfl : args = #[v0, v1, v2, v3] := by cases args; simp_all
  obtain ⟨a0, a1, a2, a3, _⟩ := hargs
  exact law_end laidOut (by show Tryz.f5.params.toList = [22, 5, 5, 22]; rw [Tryz.params5]) (by kernel_rfl) Tryz.underlying4 (by kernel_rfl) rfl hW' rfl (bufChanges_walk W v0 v1 v2 v3 a0 a1 a2 a3 hL hSh)

theorem said : Rows.BufChangesSaid :=
  OpenClaim.holds_of_cond 5 Tryz.f5 rfl rfl rfl rfl rfl rfl rfl ⟨rfl, rfl, rfl, rfl, rfl⟩ rfl rfl rfl rfl rfl (by kernel_rfl) Tryz.func5 (by kernel_rfl)
    (of_decide_eq_true (by kernel_rfl)) (by unfold Func.isWrapper; first | (rw [if_pos (by decide +kernel)]; kernel_rfl) | (rw [if_neg (by decide +kernel)]; exact ⟨rfl, rfl⟩))
    (fun os started H enc _ F => by rw [OpenClaim.pre_eq_preRow]; exact lifted os started H enc F)
theorem plain (f : FuncId) (fn : Func) (hf : Tryz.pinned.checked.prog.funcNamed "foolscap/foolscaplaw4.BufChanges" = some f) (hfn : Tryz.pinned.checked.prog.funcs[f]? = some fn) :
    false = Tryz.pinned.checked.prog.looks [] ∧ ∀ (j : Nat) t, fn.params[j]? = some t → Tryz.pinned.checked.prog.wantsStandIn t = false := by
  obtain rfl : f = 5 := Option.some.inj ((show Tryz.prog.funcNamed "foolscap/foolscaplaw4.BufChanges" = some 5 by kernel_rfl).symm.trans hf) |>.symm
  obtain rfl : fn = Tryz.f5 := (Option.some.inj (Tryz.func5.symm.trans hfn)).symm
  refine ⟨by kernel_rfl, fun j t ht => ?_⟩
  rw [Tryz.params5] at ht
  have hall : ([22, 5, 5, 22] : List TypeId).all (fun t => Tryz.prog.wantsStandIn t == false) = true := by kernel_rfl
  have := List.all_eq_true.1 hall t (List.mem_of_getElem? (by simpa using ht))
  have h2 : Tryz.prog.wantsStandIn t = false := by simpa using this
  exact h2
/-- The card. -/
theorem proved : Rows.BufChangesCardSaid :=
  Claim7.holds_tied_plain_at .later [] _ _ _ _ said (fun _ h => by cases h) (by kernel_rfl) (fun _ h => by cases h) bufChanges_row_tie rfl ⟨rfl, rfl⟩ (by kernel_rfl) rfl plain (by kernel_rfl)
#print axioms proved
end Go.Proofs.YtcdoomlagmddcaaGreatDoor.lawBufChanges

