/- The statement KeysNames: for every input the law returns true, and the input reads as it did; the listed variables tied to the program's text. No other condition. -/
import Derived.Test.YtlehgghidcaodaaDoorCards
import Derived.Test.YtlehgghidcaodaaDoorTie
import Derived.Test.YtlehgghidcaodaaDoorRead
import Derived.Deep.DeepHandedRow
import Derived.Lib.LaidTab
import Derived.Test.YtlehgghidcaodaaDoorWnames
namespace Go.Proofs.YtlehgghidcaodaaDoor.lawKeysNames
open Go.ChangeShapes Go.WideShapes Go.ChangeAt Go.RowKit Go.Fol
set_option linter.unusedVariables false
theorem own : ownKnob Tryd.prog.godebug = none := by kernel_rfl
theorem laidOut : laidOutB Tryd.prog = true := by kernel_rfl
def holds (cs : Array Value) : Obj → Obj
  | .cells _ t frozen => .cells cs t frozen
  | o => o
/-- A world for the witness: the settled one, the listed variables holding what their initialisers lay. -/
noncomputable def laidWorld (os : Os) : World :=
  { World.holding Tryd.prog os ⟨#[], #[], []⟩ with heap := ((((World.holding Tryd.prog os ⟨#[], #[], []⟩).heap.modify 1 (holds #[.int .u8 0, .int .u8 1, .int .u8 28, .int .u8 2, .int .u8 29, .int .u8 14, .int .u8 24, .int .u8 3, .int .u8 30, .int .u8 22, .int .u8 20, .int .u8 15, .int .u8 25, .int .u8 17, .int .u8 4, .int .u8 8, .int .u8 31, .int .u8 27, .int .u8 13, .int .u8 23, .int .u8 21, .int .u8 19, .int .u8 16, .int .u8 7, .int .u8 26, .int .u8 12, .int .u8 18, .int .u8 6, .int .u8 11, .int .u8 5, .int .u8 10, .int .u8 9])).modify 2 (holds #[.int .u8 0, .int .u8 1, .int .u8 56, .int .u8 2, .int .u8 57, .int .u8 49, .int .u8 28, .int .u8 3, .int .u8 61, .int .u8 58, .int .u8 42, .int .u8 50, .int .u8 38, .int .u8 29, .int .u8 17, .int .u8 4, .int .u8 62, .int .u8 47, .int .u8 59, .int .u8 36, .int .u8 45, .int .u8 43, .int .u8 51, .int .u8 22, .int .u8 53, .int .u8 39, .int .u8 33, .int .u8 30, .int .u8 24, .int .u8 18, .int .u8 12, .int .u8 5, .int .u8 63, .int .u8 55, .int .u8 48, .int .u8 27, .int .u8 60, .int .u8 41, .int .u8 37, .int .u8 16, .int .u8 46, .int .u8 35, .int .u8 44, .int .u8 21, .int .u8 52, .int .u8 32, .int .u8 23, .int .u8 11, .int .u8 54, .int .u8 26, .int .u8 40, .int .u8 15, .int .u8 34, .int .u8 20, .int .u8 31, .int .u8 10, .int .u8 25, .int .u8 14, .int .u8 19, .int .u8 9, .int .u8 13, .int .u8 8, .int .u8 7, .int .u8 6])).modify 0 (holds #[.int .u64 1, .int .u64 10, .int .u64 100, .int .u64 1000, .int .u64 10000, .int .u64 100000, .int .u64 1000000, .int .u64 10000000, .int .u64 100000000, .int .u64 1000000000, .int .u64 10000000000, .int .u64 100000000000, .int .u64 1000000000000, .int .u64 10000000000000, .int .u64 100000000000000, .int .u64 1000000000000000, .int .u64 10000000000000000, .int .u64 100000000000000000, .int .u64 1000000000000000000, .int .u64 10000000000000000000])) }
theorem laid_met (os : Os) : laidMet Tryd.prog Rows.keysNamesRow.laid ((laidWorld os).forCall (fun _ _ => 0) ⟨#[], #[(.int .u8 0), (.int .i64 0)], []⟩).memory :=
  laidMet_of_run' 8 (by kernel_rfl) (by kernel_rfl)
theorem reads (os : Os) {H : Type} (enc : TypeId × Value → H) : ∃ places, DataW.whole enc Tryd.prog ((laidWorld os).forCall (fun _ _ => 0) ⟨#[], #[(.int .u8 0), (.int .i64 0)], []⟩).memory Tryd.f5.params.toList Rows.keysNamesSpec.vars false (#[(.int .u8 0), (.int .i64 0)] : Array Value).toList 8 = some ([(.lit (.int .u8 0)), (.lit (.int .i64 0))], [], places) :=
  ⟨[], by kernel_rfl⟩
set_option maxRecDepth 100000 in
theorem lifted (os : Os) (started : os.Started) (H : Type) (enc : TypeId × Value → H) (F : Stop.Interp) :
    ReturnsInHanded {} Tryd.checked os 5 .any ((OpenSpec.ofChange Rows.keysNamesSpec).preRow enc Tryd.prog Tryd.f5 Rows.keysNamesRow.domain false Rows.keysNamesRow.laid) (((OpenSpec.ofChange Rows.keysNamesSpec).at F).post enc Tryd.prog Tryd.f5 false true false false) := by
  obtain ⟨places, hx⟩ := reads os enc
  refine returnsInHanded_of_row (C := Tryd.checked) (s := OpenSpec.ofChange Rows.keysNamesSpec) own started (by kernel_rfl) Tryd.func5
    (witness_row_at (enc := enc) (C := Tryd.checked) false (laidWorld os) #[(.int .u8 0), (.int .i64 0)] rfl (by kernel_rfl) (by kernel_rfl) (by kernel_rfl)
      (OpenSpec.preRow_of_cond 8 hx (by kernel_rfl) (fun k hk => by cases hk) (by kernel_rfl) (laid_met os))) ?_
  intro W base args ds gs before hval0 hW hcnd hcond hsz hL hSh _
  have hW' := hW
  obtain ⟨p, q, hA0, hV, hpq, hfz, hnd⟩ := hW
  have hA : DataW.TrodAll enc Tryd.prog W 0 (fun _ => true) true Tryd.f5.params.toList args.toList ds p := hA0
  rw [Tryd.params5] at hA
  have hval : ∀ (j : Nat) t v, [5, 3][j]? = some t → args.toList[j]? = some v → Value.okWide Tryd.prog W .any base t v := fun j t v ht hv => hval0 j t v (by show Tryd.f5.params[j]? = some t; rw [Tryd.params5]; simpa using ht) (by simpa using hv)
  have hw : ∀ x ∈ DataW.weightsEach Tryd.prog [5, 3] ds, x ≤ reachBytes := by
    obtain ⟨rfl, _⟩ := trodVars_none hV
    have e := List.all_eq_true.1 hsz
    intro x hx
    have := e x (by
      show x ∈ DataW.weightsEach Tryd.prog (Tryd.f5.params.toList ++ []) (ds ++ [])
      rw [Tryd.params5]
      simpa using hx)
    simpa using this
  have hargs := args_of hA hw hval
  obtain ⟨rfl, _⟩ := trodVars_none hV
  clear hval hw hval0 hA0 hsz hcnd hcond
  obtain ⟨v0, vs0, d0, ds0, p0, q0, hargs0, rfl, rfl, h0, r0⟩ := trodAll_cons hA
  obtain ⟨v1, vs1, d1, ds1, p1, q1, rfl, rfl, rfl, h1, r1⟩ := trodAll_cons r0
  obtain ⟨rfl, rfl, rfl⟩ := trodAll_nil r1
  obtain rfl : args = #[v0, v1] := by cases args; simp_all
  obtain ⟨a0, a1, _⟩ := hargs
  exact law_end laidOut (by show Tryd.f5.params.toList = [5, 3]; rw [Tryd.params5]) (by kernel_rfl) Tryd.underlying4 (by kernel_rfl) rfl hW' rfl (keysNames_walk W v0 v1 a0 a1 hL hSh)

theorem said : Rows.KeysNamesSaid :=
  OpenClaim.holds_of_cond 5 Tryd.f5 rfl rfl rfl rfl rfl rfl rfl ⟨rfl, rfl, rfl, rfl, rfl⟩ rfl rfl rfl rfl rfl (by kernel_rfl) Tryd.func5 (by kernel_rfl)
    (of_decide_eq_true (by kernel_rfl)) (by unfold Func.isWrapper; first | (rw [if_pos (by decide +kernel)]; kernel_rfl) | (rw [if_neg (by decide +kernel)]; exact ⟨rfl, rfl⟩))
    (fun os started H enc _ F => by rw [OpenClaim.pre_eq_preRow]; exact lifted os started H enc F)
theorem plain (f : FuncId) (fn : Func) (hf : Tryd.pinned.checked.prog.funcNamed "foolscap/foolscaplaw23.KeysNames" = some f) (hfn : Tryd.pinned.checked.prog.funcs[f]? = some fn) :
    false = Tryd.pinned.checked.prog.looks [] ∧ ∀ (j : Nat) t, fn.params[j]? = some t → Tryd.pinned.checked.prog.wantsStandIn t = false := by
  obtain rfl : f = 5 := Option.some.inj ((show Tryd.prog.funcNamed "foolscap/foolscaplaw23.KeysNames" = some 5 by kernel_rfl).symm.trans hf) |>.symm
  obtain rfl : fn = Tryd.f5 := (Option.some.inj (Tryd.func5.symm.trans hfn)).symm
  refine ⟨by kernel_rfl, fun j t ht => ?_⟩
  rw [Tryd.params5] at ht
  have hall : ([5, 3] : List TypeId).all (fun t => Tryd.prog.wantsStandIn t == false) = true := by kernel_rfl
  have := List.all_eq_true.1 hall t (List.mem_of_getElem? (by simpa using ht))
  have h2 : Tryd.prog.wantsStandIn t = false := by simpa using this
  exact h2
/-- The card. -/
theorem proved : Rows.KeysNamesCardSaid :=
  Claim7.holds_tied_plain_at .later [] _ _ _ _ said (fun _ h => by cases h) (by kernel_rfl) (fun _ h => by cases h) keysNames_row_tie rfl ⟨rfl, rfl⟩ (by kernel_rfl) rfl plain (by kernel_rfl)
#print axioms proved
end Go.Proofs.YtlehgghidcaodaaDoor.lawKeysNames

