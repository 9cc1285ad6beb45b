/- The statement MacroKeysUpto: for every input of bulk at most the bound the law returns true, and the input reads as it did; the listed variables tied to the program's text. No other condition. -/
import Derived.Test.YtkgngcibjkkhkaaDoorCards
import Derived.Test.YtkgngcibjkkhkaaDoorTie
import Derived.Test.YtkgngcibjkkhkaaDoorRead
import Derived.Deep.DeepHandedRow
import Derived.Lib.LaidTab
import Derived.Test.YtkgngcibjkkhkaaDoorWkeys
namespace Go.Proofs.YtkgngcibjkkhkaaDoor.lawMacroKeys
open Go.ChangeShapes Go.WideShapes Go.ChangeAt Go.RowKit Go.Fol
set_option linter.unusedVariables false
theorem own : ownKnob Tryd.prog.godebug = none := by kernel_rfl
theorem laidOut : laidOutB Tryd.prog = true := by kernel_rfl
def holds (cs : Array Value) : Obj → Obj
  | .cells _ t frozen => .cells cs t frozen
  | o => o
/-- A world for the witness: the settled one, the listed variables holding what their initialisers lay. -/
noncomputable def laidWorld (os : Os) : World :=
  { World.holding Tryd.prog os ⟨#[], #[], []⟩ with heap := (((World.holding Tryd.prog os ⟨#[], #[], []⟩).heap.modify 2 (holds (#[.int .u8 128, .int .u8 191, .int .u8 160, .int .u8 191, .int .u8 128, .int .u8 159, .int .u8 144, .int .u8 191, .int .u8 128, .int .u8 143, .int .u8 0, .int .u8 0, .int .u8 0, .int .u8 0, .int .u8 0, .int .u8 0, .int .u8 0, .int .u8 0, .int .u8 0, .int .u8 0, .int .u8 0, .int .u8 0, .int .u8 0, .int .u8 0, .int .u8 0, .int .u8 0, .int .u8 0, .int .u8 0, .int .u8 0, .int .u8 0, .int .u8 0, .int .u8 0]))).modify 1 (holds ((Go.Pinned.utf8FirstZ.map (fun (z : Nat) => Value.int .u8 (z : Int))).toArray))) }
theorem laid_met (os : Os) : laidMet Tryd.prog Rows.macroKeysUptoRow.laid ((laidWorld os).forCall (fun _ _ => 0) ⟨#[], #[(.agg #[(.int .i64 0), (.slice none 0 0)]), (.slice none 0 0)], []⟩).memory :=
  laidMet_of_run' 8 (by kernel_rfl) (by kernel_rfl)
theorem reads (os : Os) {H : Type} (enc : TypeId × Value → H) : ∃ places, DataW.whole enc Tryd.prog ((laidWorld os).forCall (fun _ _ => 0) ⟨#[], #[(.agg #[(.int .i64 0), (.slice none 0 0)]), (.slice none 0 0)], []⟩).memory Tryd.f4.params.toList Rows.macroKeysSpec.vars false (#[(.agg #[(.int .i64 0), (.slice none 0 0)]), (.slice none 0 0)] : Array Value).toList 8 = some ([(.agg [(.lit (.int .i64 0)), .nil]), .nil], [], places) :=
  ⟨[], by kernel_rfl⟩
set_option maxRecDepth 100000 in
theorem lifted (os : Os) (started : os.Started) (H : Type) (enc : TypeId × Value → H) (F : Stop.Interp) :
    ReturnsInHanded {} Tryd.checked os 4 .any ((Rows.OpenSpec.upto Rows.macroKeysSpec).preRow enc Tryd.prog Tryd.f4 Rows.macroKeysUptoRow.domain false Rows.macroKeysUptoRow.laid) (((Rows.OpenSpec.upto Rows.macroKeysSpec).at F).post enc Tryd.prog Tryd.f4 false true false false) := by
  obtain ⟨places, hx⟩ := reads os enc
  refine returnsInHanded_of_row (C := Tryd.checked) (s := Rows.OpenSpec.upto Rows.macroKeysSpec) own started (by kernel_rfl) Tryd.func4
    (witness_row_at (enc := enc) (C := Tryd.checked) false (laidWorld os) #[(.agg #[(.int .i64 0), (.slice none 0 0)]), (.slice none 0 0)] rfl (by kernel_rfl) (by kernel_rfl) (by kernel_rfl)
      (OpenSpec.preRow_of_cond 8 hx (by kernel_rfl) (fun k hk => by cases hk; kernel_rfl) (by kernel_rfl) (laid_met os))) ?_
  intro W base args ds gs before hval0 hW hcnd hcond hsz hL hSh _
  have hW' := hW
  obtain ⟨p, q, hA0, hV, hpq, hfz, hnd⟩ := hW
  have hA : DataW.TrodAll enc Tryd.prog W 0 (fun _ => true) true Tryd.f4.params.toList args.toList ds p := hA0
  rw [Tryd.params4] at hA
  have hval : ∀ (j : Nat) t v, [33, 22][j]? = some t → args.toList[j]? = some v → Value.okWide Tryd.prog W .any base t v := fun j t v ht hv => hval0 j t v (by show Tryd.f4.params[j]? = some t; rw [Tryd.params4]; simpa using ht) (by simpa using hv)
  have hw : ∀ x ∈ DataW.weightsEach Tryd.prog [33, 22] ds, x ≤ reachBytes := by
    obtain ⟨rfl, _⟩ := trodVars_none hV
    have e := List.all_eq_true.1 hsz
    intro x hx
    have := e x (by
      show x ∈ DataW.weightsEach Tryd.prog (Tryd.f4.params.toList ++ []) (ds ++ [])
      rw [Tryd.params4]
      simpa using hx)
    simpa using this
  have hargs := args_of hA hw hval
  obtain ⟨rfl, _⟩ := trodVars_none hV
  have hbulk : Rows.uptoBulkAll ds ≤ 1048576 := by
    have h := of_decide_eq_true (hcond _ rfl)
    simpa only [List.append_nil] using h
  have hargsB := argsB_of hA hw hbulk
  clear hval hw hval0 hA0 hsz hcnd hcond
  obtain ⟨v0, vs0, d0, ds0, p0, q0, hargs0, rfl, rfl, h0, r0⟩ := trodAll_cons hA
  obtain ⟨v1, vs1, d1, ds1, p1, q1, rfl, rfl, rfl, h1, r1⟩ := trodAll_cons r0
  obtain ⟨rfl, rfl, rfl⟩ := trodAll_nil r1
  obtain rfl : args = #[v0, v1] := by cases args; simp_all
  obtain ⟨a0, a1, _⟩ := hargs
  obtain ⟨b0, b1, _⟩ := hargsB
  exact law_end laidOut (by show Tryd.f4.params.toList = [33, 22]; rw [Tryd.params4]) (by kernel_rfl) Tryd.underlying4 (by kernel_rfl) rfl hW' rfl (macroKeys_walk W v0 v1 a0 a1 b0 b1 hL hSh)

theorem said : Rows.MacroKeysUptoSaid :=
  OpenClaim.holds_of_cond 4 Tryd.f4 rfl rfl rfl rfl rfl rfl rfl ⟨rfl, rfl, rfl, rfl, rfl⟩ rfl rfl rfl rfl rfl (by kernel_rfl) Tryd.func4 (by kernel_rfl)
    (of_decide_eq_true (by kernel_rfl)) (by unfold Func.isWrapper; first | (rw [if_pos (by decide +kernel)]; kernel_rfl) | (rw [if_neg (by decide +kernel)]; exact ⟨rfl, rfl⟩))
    (fun os started H enc _ F => by rw [OpenClaim.pre_eq_preRow]; exact lifted os started H enc F)
theorem plain (f : FuncId) (fn : Func) (hf : Tryd.pinned.checked.prog.funcNamed "foolscap/foolscaplaw33.MacroKeys" = some f) (hfn : Tryd.pinned.checked.prog.funcs[f]? = some fn) :
    false = Tryd.pinned.checked.prog.looks [] ∧ ∀ (j : Nat) t, fn.params[j]? = some t → Tryd.pinned.checked.prog.wantsStandIn t = false := by
  obtain rfl : f = 4 := Option.some.inj ((show Tryd.prog.funcNamed "foolscap/foolscaplaw33.MacroKeys" = some 4 by kernel_rfl).symm.trans hf) |>.symm
  obtain rfl : fn = Tryd.f4 := (Option.some.inj (Tryd.func4.symm.trans hfn)).symm
  refine ⟨by kernel_rfl, fun j t ht => ?_⟩
  rw [Tryd.params4] at ht
  have hall : ([33, 22] : List TypeId).all (fun t => Tryd.prog.wantsStandIn t == false) = true := by kernel_rfl
  have := List.all_eq_true.1 hall t (List.mem_of_getElem? (by simpa using ht))
  have h2 : Tryd.prog.wantsStandIn t = false := by simpa using this
  exact h2
/-- The card. -/
theorem proved : Rows.MacroKeysUptoCardSaid :=
  Claim7.holds_tied_plain_at .later [] _ _ _ _ said (fun _ h => by cases h) (by kernel_rfl) (fun _ h => by cases h) macroKeysUpto_row_tie rfl ⟨rfl, rfl⟩ (by kernel_rfl) rfl plain (by kernel_rfl)
#print axioms proved
end Go.Proofs.YtkgngcibjkkhkaaDoor.lawMacroKeys

