/-
  No cell of these rows narrows 'for every input' (looked for: loops, veiled, ifaces, maps, wideKeys, modest, calm, conditions, laid).
  DERIVED. THE GIVEN ROWS OF THIS SEAT. 3 by the template 'for every input the law returns true; each argument reads behind the call as it read before'; 0 by the template 'total and deterministic' (their statements: YtdgccecoeonffaaTotals.lean).
  GIVEN WITH THE SEED: the statements are not yours to turn. If you find one false, say at which input.
  Laid BY PROGRAM, IN A SANDBOX (cutbox-rows.mjs): the forced cells as the released guide's own fill.sh prints them over the translation fe0f5b629c024e25… (all of the seat's roots in one cut). By AI agents, Wed Nov 11 2026. No macro, syntax, notation, axiom, sorry.
-/
import Derived.Test.YtdgccecoeonffaaChecked
import GoSem.Claim
import GoSem.ClaimJoined
import GoSem.ClaimMapViews
import Derived.JoinedTies
import Derived.KernelRfl
namespace Go.Proofs.Ytdgccecoeonffaa
/- THE CELL 'sum', in the pinned program and in every row, IS THE sha256 OF THE DUMP (.gsa) THAT YtdgccecoeonffaaProg.lean LOADS. Nothing in Lean hashes anything: it is a label: what it is worth is what the hold of that sum in a sandbox is worth. -/
noncomputable def Try.pinned : Pinned := { name := "ytdgccecoeonffaa", sum := "fe0f5b629c024e258079f113732afb500454fc7706cead311e51e4fcc4868509", checked := Try.checked }
namespace Rows
def none {H : Type} : Left H := { results := [], args := [] }

/-- 'foolscaplaw30.ViewScrolls': WHATEVER THE INPUT: true; the input reads as it did. -/
def viewScrollsSpec : ChangeSpec := { name := "viewScrolls", fn := fun _ => fun
  | [d1, d2, d3] => { results := [.lit (.bool true)], args := [d1, d2, d3] }
  | _ => none }
def viewScrollsRow : OpenClaim := { program := "ytdgccecoeonffaa", sum := "fe0f5b629c024e258079f113732afb500454fc7706cead311e51e4fcc4868509", func := "foolscap/foolscaplaw30.ViewScrolls", spec := "viewScrolls", apart := false }
def ViewScrollsSaid : Prop := viewScrollsRow.holds Try.pinned (OpenSpec.ofChange viewScrollsSpec)

/-- ITS FALSE NEIGHBOUR: 'it returns false'. Refute it at one input. -/
def viewScrollsWrong : ChangeSpec := { name := "viewScrolls", fn := fun _ => fun
  | [d1, d2, d3] => { results := [.lit (.bool false)], args := [d1, d2, d3] }
  | _ => none }
def ViewScrollsWrongFalsely : Prop := viewScrollsRow.holds Try.pinned (OpenSpec.ofChange viewScrollsWrong)

/-- 'foolscaplaw30.ViewSteps': WHATEVER THE INPUT: true; the input reads as it did. -/
def viewStepsSpec : ChangeSpec := { name := "viewSteps", fn := fun _ => fun
  | [d1, d2, d3] => { results := [.lit (.bool true)], args := [d1, d2, d3] }
  | _ => none }
def viewStepsRow : OpenClaim := { program := "ytdgccecoeonffaa", sum := "fe0f5b629c024e258079f113732afb500454fc7706cead311e51e4fcc4868509", func := "foolscap/foolscaplaw30.ViewSteps", spec := "viewSteps", apart := false }
def ViewStepsSaid : Prop := viewStepsRow.holds Try.pinned (OpenSpec.ofChange viewStepsSpec)

/-- ITS FALSE NEIGHBOUR: 'it returns false'. Refute it at one input. -/
def viewStepsWrong : ChangeSpec := { name := "viewSteps", fn := fun _ => fun
  | [d1, d2, d3] => { results := [.lit (.bool false)], args := [d1, d2, d3] }
  | _ => none }
def ViewStepsWrongFalsely : Prop := viewStepsRow.holds Try.pinned (OpenSpec.ofChange viewStepsWrong)

/-- 'foolscaplaw30.ViewShown': WHATEVER THE INPUT: true; the input reads as it did. -/
def viewShownSpec : ChangeSpec := { name := "viewShown", fn := fun _ => fun
  | [d1, d2] => { results := [.lit (.bool true)], args := [d1, d2] }
  | _ => none }
def viewShownRow : OpenClaim := { program := "ytdgccecoeonffaa", sum := "fe0f5b629c024e258079f113732afb500454fc7706cead311e51e4fcc4868509", func := "foolscap/foolscaplaw30.ViewShown", spec := "viewShown", apart := false }
def ViewShownSaid : Prop := viewShownRow.holds Try.pinned (OpenSpec.ofChange viewShownSpec)

/-- ITS FALSE NEIGHBOUR: 'it returns false'. Refute it at one input. -/
def viewShownWrong : ChangeSpec := { name := "viewShown", fn := fun _ => fun
  | [d1, d2] => { results := [.lit (.bool false)], args := [d1, d2] }
  | _ => none }
def ViewShownWrongFalsely : Prop := viewShownRow.holds Try.pinned (OpenSpec.ofChange viewShownWrong)

/- THE SECOND FORM. 'bulk': how many values and letters a reading holds, each counted each time it is reached (what is shared counts as often as it is met; a slice's spare places count too). A statement '..UptoSaid' is the law's where the arguments, and the package variables that the reading takes, are together of bulk at most 1048576: NARROWER than '..Said'. Prove '..Said' where nothing that the law and all that it calls make is longer than what came in: it says more and counts as full. Else prove '..UptoSaid'. A law counts once. -/
mutual
def uptoBulk {H : Type} : DataW H → Nat
  | .lit (.string bytes) => bytes.length + 1
  | .lit _ => 1
  | .nil => 1
  | .ptr d => uptoBulk d + 1
  | .slice elems spare => uptoBulkAll elems + uptoBulkAll spare + 1
  | .agg parts => uptoBulkAll parts + 1
  | .iface _ d => uptoBulk d + 1
  | .map entries => uptoBulkEntries entries + 1
  | .held _ => 1
def uptoBulkAll {H : Type} : List (DataW H) → Nat
  | [] => 0
  | d :: r => uptoBulk d + uptoBulkAll r
def uptoBulkEntries {H : Type} : List (Lit × DataW H) → Nat
  | [] => 0
  | x :: r => uptoBulkEntry x + uptoBulkEntries r
def uptoBulkEntry {H : Type} : Lit × DataW H → Nat
  | (.string bytes, d) => bytes.length + uptoBulk d + 1
  | (_, d) => uptoBulk d + 1
 end
def uptoSmall : (H : Type) → List (DataW H) → Bool := fun _ ds => decide (uptoBulkAll ds ≤ 1048576)
def OpenSpec.upto (s : _root_.Go.ChangeSpec) : _root_.Go.OpenSpec := { _root_.Go.OpenSpec.ofChange s with cond := some uptoSmall }

/-- 'foolscaplaw30.ViewScrolls', WHERE WHAT IT READS IS OF BULK AT MOST 1048576: true; the input reads as it did. -/
def viewScrollsUptoRow : OpenClaim := { program := "ytdgccecoeonffaa", sum := "fe0f5b629c024e258079f113732afb500454fc7706cead311e51e4fcc4868509", func := "foolscap/foolscaplaw30.ViewScrolls", spec := "viewScrolls", apart := false, narrowed := true }
def ViewScrollsUptoSaid : Prop := viewScrollsUptoRow.holds Try.pinned (OpenSpec.upto viewScrollsSpec)

/-- 'foolscaplaw30.ViewSteps', WHERE WHAT IT READS IS OF BULK AT MOST 1048576: true; the input reads as it did. -/
def viewStepsUptoRow : OpenClaim := { program := "ytdgccecoeonffaa", sum := "fe0f5b629c024e258079f113732afb500454fc7706cead311e51e4fcc4868509", func := "foolscap/foolscaplaw30.ViewSteps", spec := "viewSteps", apart := false, narrowed := true }
def ViewStepsUptoSaid : Prop := viewStepsUptoRow.holds Try.pinned (OpenSpec.upto viewStepsSpec)

/-- 'foolscaplaw30.ViewShown', WHERE WHAT IT READS IS OF BULK AT MOST 1048576: true; the input reads as it did. -/
def viewShownUptoRow : OpenClaim := { program := "ytdgccecoeonffaa", sum := "fe0f5b629c024e258079f113732afb500454fc7706cead311e51e4fcc4868509", func := "foolscap/foolscaplaw30.ViewShown", spec := "viewShown", apart := false, narrowed := true }
def ViewShownUptoSaid : Prop := viewShownUptoRow.holds Try.pinned (OpenSpec.upto viewShownSpec)

end Rows
end Go.Proofs.Ytdgccecoeonffaa
