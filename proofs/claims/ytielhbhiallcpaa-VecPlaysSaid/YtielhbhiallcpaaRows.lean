/-
  No cell of these rows narrows 'for every input' (looked for: loops, veiled, ifaces, maps, wideKeys, modest, calm, conditions, laid).
  DERIVED. THE GIVEN ROWS OF THIS SEAT. 5 by the template 'for every input the law returns true; each argument reads behind the call as it read before'; 0 by the template 'total and deterministic' (their statements: YtielhbhiallcpaaTotals.lean).
  GIVEN WITH THE SEED: the statements are not yours to turn. If you find one false, say at which input.
  Laid BY PROGRAM, IN A SANDBOX (cutbox-rows.mjs): the forced cells as the released guide's own fill.sh prints them over the translation 47a678e50fb4824c… (all of the seat's roots in one cut). By AI agents, Wed Nov 11 2026. No macro, syntax, notation, axiom, sorry.
-/
import Derived.Test.YtielhbhiallcpaaChecked
import GoSem.Claim
import GoSem.ClaimJoined
import GoSem.ClaimMapViews
import Derived.JoinedTies
import Derived.KernelRfl
namespace Go.Proofs.Ytielhbhiallcpaa
/- THE CELL 'sum', in the pinned program and in every row, IS THE sha256 OF THE DUMP (.gsa) THAT YtielhbhiallcpaaProg.lean LOADS. Nothing in Lean hashes anything: it is a label: what it is worth is what the hold of that sum in a sandbox is worth. -/
noncomputable def Try.pinned : Pinned := { name := "ytielhbhiallcpaa", sum := "47a678e50fb4824c0855e8802e797238d60181ab6299aad292865df135085f3c", checked := Try.checked }
namespace Rows
def none {H : Type} : Left H := { results := [], args := [] }

/-- 'foolscaplaw1.VecTexts': WHATEVER THE INPUT: true; the input reads as it did. -/
def vecTextsSpec : ChangeSpec := { name := "vecTexts", fn := fun _ => fun
  | [d1, d2, d3] => { results := [.lit (.bool true)], args := [d1, d2, d3] }
  | _ => none }
def vecTextsRow : OpenClaim := { program := "ytielhbhiallcpaa", sum := "47a678e50fb4824c0855e8802e797238d60181ab6299aad292865df135085f3c", func := "foolscap/foolscaplaw1.VecTexts", spec := "vecTexts", inPlace := ["slices.overlaps[int]", "slices.overlaps[string]"], apart := false }
def VecTextsSaid : Prop := vecTextsRow.holds Try.pinned (OpenSpec.ofChange vecTextsSpec)

/-- ITS FALSE NEIGHBOUR: 'it returns false'. Refute it at one input. -/
def vecTextsWrong : ChangeSpec := { name := "vecTexts", fn := fun _ => fun
  | [d1, d2, d3] => { results := [.lit (.bool false)], args := [d1, d2, d3] }
  | _ => none }
def VecTextsWrongFalsely : Prop := vecTextsRow.holds Try.pinned (OpenSpec.ofChange vecTextsWrong)

/-- 'foolscaplaw1.VecPlays': WHATEVER THE INPUT: true; the input reads as it did. -/
def vecPlaysSpec : ChangeSpec := { name := "vecPlays", fn := fun _ => fun
  | [d1, d2] => { results := [.lit (.bool true)], args := [d1, d2] }
  | _ => none }
def vecPlaysRow : OpenClaim := { program := "ytielhbhiallcpaa", sum := "47a678e50fb4824c0855e8802e797238d60181ab6299aad292865df135085f3c", func := "foolscap/foolscaplaw1.VecPlays", spec := "vecPlays", inPlace := ["slices.overlaps[int]"], unfollowed := true, recurses := true, apart := false }
def VecPlaysSaid : Prop := vecPlaysRow.holds Try.pinned (OpenSpec.ofChange vecPlaysSpec)

/-- ITS FALSE NEIGHBOUR: 'it returns false'. Refute it at one input. -/
def vecPlaysWrong : ChangeSpec := { name := "vecPlays", fn := fun _ => fun
  | [d1, d2] => { results := [.lit (.bool false)], args := [d1, d2] }
  | _ => none }
def VecPlaysWrongFalsely : Prop := vecPlaysRow.holds Try.pinned (OpenSpec.ofChange vecPlaysWrong)

/-- 'foolscaplaw1.VecBreaks': WHATEVER THE INPUT: true; the input reads as it did. -/
def vecBreaksSpec : ChangeSpec := { name := "vecBreaks", fn := fun _ => fun
  | [d1, d2] => { results := [.lit (.bool true)], args := [d1, d2] }
  | _ => none }
def vecBreaksRow : OpenClaim := { program := "ytielhbhiallcpaa", sum := "47a678e50fb4824c0855e8802e797238d60181ab6299aad292865df135085f3c", func := "foolscap/foolscaplaw1.VecBreaks", spec := "vecBreaks", inPlace := ["slices.overlaps[int]"], unfollowed := true, recurses := true, apart := false }
def VecBreaksSaid : Prop := vecBreaksRow.holds Try.pinned (OpenSpec.ofChange vecBreaksSpec)

/-- ITS FALSE NEIGHBOUR: 'it returns false'. Refute it at one input. -/
def vecBreaksWrong : ChangeSpec := { name := "vecBreaks", fn := fun _ => fun
  | [d1, d2] => { results := [.lit (.bool false)], args := [d1, d2] }
  | _ => none }
def VecBreaksWrongFalsely : Prop := vecBreaksRow.holds Try.pinned (OpenSpec.ofChange vecBreaksWrong)

/-- 'foolscaplaw1.VecJoins': WHATEVER THE INPUT: true; the input reads as it did. -/
def vecJoinsSpec : ChangeSpec := { name := "vecJoins", fn := fun _ => fun
  | [d1, d2, d3] => { results := [.lit (.bool true)], args := [d1, d2, d3] }
  | _ => none }
def vecJoinsRow : OpenClaim := { program := "ytielhbhiallcpaa", sum := "47a678e50fb4824c0855e8802e797238d60181ab6299aad292865df135085f3c", func := "foolscap/foolscaplaw1.VecJoins", spec := "vecJoins", inPlace := ["slices.overlaps[int]"], unfollowed := true, recurses := true, apart := false }
def VecJoinsSaid : Prop := vecJoinsRow.holds Try.pinned (OpenSpec.ofChange vecJoinsSpec)

/-- ITS FALSE NEIGHBOUR: 'it returns false'. Refute it at one input. -/
def vecJoinsWrong : ChangeSpec := { name := "vecJoins", fn := fun _ => fun
  | [d1, d2, d3] => { results := [.lit (.bool false)], args := [d1, d2, d3] }
  | _ => none }
def VecJoinsWrongFalsely : Prop := vecJoinsRow.holds Try.pinned (OpenSpec.ofChange vecJoinsWrong)

/-- 'foolscaplaw1.VecEnds': WHATEVER THE INPUT: true; the input reads as it did. -/
def vecEndsSpec : ChangeSpec := { name := "vecEnds", fn := fun _ => fun
  | [d1, d2] => { results := [.lit (.bool true)], args := [d1, d2] }
  | _ => none }
def vecEndsRow : OpenClaim := { program := "ytielhbhiallcpaa", sum := "47a678e50fb4824c0855e8802e797238d60181ab6299aad292865df135085f3c", func := "foolscap/foolscaplaw1.VecEnds", spec := "vecEnds", inPlace := ["slices.overlaps[int]"], unfollowed := true, recurses := true, apart := false }
def VecEndsSaid : Prop := vecEndsRow.holds Try.pinned (OpenSpec.ofChange vecEndsSpec)

/-- ITS FALSE NEIGHBOUR: 'it returns false'. Refute it at one input. -/
def vecEndsWrong : ChangeSpec := { name := "vecEnds", fn := fun _ => fun
  | [d1, d2] => { results := [.lit (.bool false)], args := [d1, d2] }
  | _ => none }
def VecEndsWrongFalsely : Prop := vecEndsRow.holds Try.pinned (OpenSpec.ofChange vecEndsWrong)

/- THE SECOND FORM. 'bulk': how many values and letters a reading holds, each counted each time it is reached (what is shared counts as often as it is met; a slice's spare places count too). A statement '..UptoSaid' is the law's where the arguments, and the package variables that the reading takes, are together of bulk at most 1048576: NARROWER than '..Said'. Prove '..Said' where nothing that the law and all that it calls make is longer than what came in: it says more and counts as full. Else prove '..UptoSaid'. A law counts once. -/
mutual
def uptoBulk {H : Type} : DataW H → Nat
  | .lit (.string bytes) => bytes.length + 1
  | .lit _ => 1
  | .nil => 1
  | .ptr d => uptoBulk d + 1
  | .slice elems spare => uptoBulkAll elems + uptoBulkAll spare + 1
  | .agg parts => uptoBulkAll parts + 1
  | .iface _ d => uptoBulk d + 1
  | .map entries => uptoBulkEntries entries + 1
  | .held _ => 1
def uptoBulkAll {H : Type} : List (DataW H) → Nat
  | [] => 0
  | d :: r => uptoBulk d + uptoBulkAll r
def uptoBulkEntries {H : Type} : List (Lit × DataW H) → Nat
  | [] => 0
  | x :: r => uptoBulkEntry x + uptoBulkEntries r
def uptoBulkEntry {H : Type} : Lit × DataW H → Nat
  | (.string bytes, d) => bytes.length + uptoBulk d + 1
  | (_, d) => uptoBulk d + 1
 end
def uptoSmall : (H : Type) → List (DataW H) → Bool := fun _ ds => decide (uptoBulkAll ds ≤ 1048576)
def OpenSpec.upto (s : _root_.Go.ChangeSpec) : _root_.Go.OpenSpec := { _root_.Go.OpenSpec.ofChange s with cond := some uptoSmall }

/-- 'foolscaplaw1.VecTexts', WHERE WHAT IT READS IS OF BULK AT MOST 1048576: true; the input reads as it did. -/
def vecTextsUptoRow : OpenClaim := { program := "ytielhbhiallcpaa", sum := "47a678e50fb4824c0855e8802e797238d60181ab6299aad292865df135085f3c", func := "foolscap/foolscaplaw1.VecTexts", spec := "vecTexts", inPlace := ["slices.overlaps[int]", "slices.overlaps[string]"], apart := false, narrowed := true }
def VecTextsUptoSaid : Prop := vecTextsUptoRow.holds Try.pinned (OpenSpec.upto vecTextsSpec)

/-- 'foolscaplaw1.VecPlays', WHERE WHAT IT READS IS OF BULK AT MOST 1048576: true; the input reads as it did. -/
def vecPlaysUptoRow : OpenClaim := { program := "ytielhbhiallcpaa", sum := "47a678e50fb4824c0855e8802e797238d60181ab6299aad292865df135085f3c", func := "foolscap/foolscaplaw1.VecPlays", spec := "vecPlays", inPlace := ["slices.overlaps[int]"], unfollowed := true, recurses := true, apart := false, narrowed := true }
def VecPlaysUptoSaid : Prop := vecPlaysUptoRow.holds Try.pinned (OpenSpec.upto vecPlaysSpec)

/-- 'foolscaplaw1.VecBreaks', WHERE WHAT IT READS IS OF BULK AT MOST 1048576: true; the input reads as it did. -/
def vecBreaksUptoRow : OpenClaim := { program := "ytielhbhiallcpaa", sum := "47a678e50fb4824c0855e8802e797238d60181ab6299aad292865df135085f3c", func := "foolscap/foolscaplaw1.VecBreaks", spec := "vecBreaks", inPlace := ["slices.overlaps[int]"], unfollowed := true, recurses := true, apart := false, narrowed := true }
def VecBreaksUptoSaid : Prop := vecBreaksUptoRow.holds Try.pinned (OpenSpec.upto vecBreaksSpec)

/-- 'foolscaplaw1.VecJoins', WHERE WHAT IT READS IS OF BULK AT MOST 1048576: true; the input reads as it did. -/
def vecJoinsUptoRow : OpenClaim := { program := "ytielhbhiallcpaa", sum := "47a678e50fb4824c0855e8802e797238d60181ab6299aad292865df135085f3c", func := "foolscap/foolscaplaw1.VecJoins", spec := "vecJoins", inPlace := ["slices.overlaps[int]"], unfollowed := true, recurses := true, apart := false, narrowed := true }
def VecJoinsUptoSaid : Prop := vecJoinsUptoRow.holds Try.pinned (OpenSpec.upto vecJoinsSpec)

/-- 'foolscaplaw1.VecEnds', WHERE WHAT IT READS IS OF BULK AT MOST 1048576: true; the input reads as it did. -/
def vecEndsUptoRow : OpenClaim := { program := "ytielhbhiallcpaa", sum := "47a678e50fb4824c0855e8802e797238d60181ab6299aad292865df135085f3c", func := "foolscap/foolscaplaw1.VecEnds", spec := "vecEnds", inPlace := ["slices.overlaps[int]"], unfollowed := true, recurses := true, apart := false, narrowed := true }
def VecEndsUptoSaid : Prop := vecEndsUptoRow.holds Try.pinned (OpenSpec.upto vecEndsSpec)

end Rows
end Go.Proofs.Ytielhbhiallcpaa
