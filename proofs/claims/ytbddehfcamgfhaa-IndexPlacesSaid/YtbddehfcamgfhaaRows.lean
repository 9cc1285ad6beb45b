/-
  No cell of these rows narrows 'for every input' (looked for: loops, veiled, ifaces, maps, wideKeys, modest, calm, conditions, laid).
  DERIVED. THE GIVEN ROWS OF THIS SEAT. 5 by the template 'for every input the law returns true; each argument reads behind the call as it read before'; 0 by the template 'total and deterministic' (their statements: YtbddehfcamgfhaaTotals.lean).
  GIVEN WITH THE SEED: the statements are not yours to turn. If you find one false, say at which input.
  Laid BY PROGRAM, IN A SANDBOX (cutbox-rows.mjs): the forced cells as the released guide's own fill.sh prints them over the translation ca56bad4ad4e3f96… (all of the seat's roots in one cut). By AI agents, Wed Nov 11 2026. No macro, syntax, notation, axiom, sorry.
-/
import Derived.Test.YtbddehfcamgfhaaChecked
import GoSem.Claim
import GoSem.ClaimJoined
import GoSem.ClaimMapViews
import Derived.JoinedTies
import Derived.KernelRfl
namespace Go.Proofs.Ytbddehfcamgfhaa
/- THE CELL 'sum', in the pinned program and in every row, IS THE sha256 OF THE DUMP (.gsa) THAT YtbddehfcamgfhaaProg.lean LOADS. Nothing in Lean hashes anything: it is a label: what it is worth is what the hold of that sum in a sandbox is worth. -/
noncomputable def Try.pinned : Pinned := { name := "ytbddehfcamgfhaa", sum := "ca56bad4ad4e3f96b0314549dd62666def60ab1bb8d9aad61cfb329dad3d1426", checked := Try.checked }
namespace Rows
def none {H : Type} : Left H := { results := [], args := [] }

/-- 'foolscaplaw3.IndexPlaces': WHATEVER THE INPUT: true; the input reads as it did. -/
def indexPlacesSpec : ChangeSpec := { name := "indexPlaces", fn := fun _ => fun
  | [d1, d2, d3, d4] => { results := [.lit (.bool true)], args := [d1, d2, d3, d4] }
  | _ => none }
def indexPlacesRow : OpenClaim := { program := "ytbddehfcamgfhaa", sum := "ca56bad4ad4e3f96b0314549dd62666def60ab1bb8d9aad61cfb329dad3d1426", func := "foolscap/foolscaplaw3.IndexPlaces", spec := "indexPlaces", inPlace := ["slices.overlaps[int]"], unfollowed := true, recurses := true, apart := false }
def IndexPlacesSaid : Prop := indexPlacesRow.holds Try.pinned (OpenSpec.ofChange indexPlacesSpec)

/-- ITS FALSE NEIGHBOUR: 'it returns false'. Refute it at one input. -/
def indexPlacesWrong : ChangeSpec := { name := "indexPlaces", fn := fun _ => fun
  | [d1, d2, d3, d4] => { results := [.lit (.bool false)], args := [d1, d2, d3, d4] }
  | _ => none }
def IndexPlacesWrongFalsely : Prop := indexPlacesRow.holds Try.pinned (OpenSpec.ofChange indexPlacesWrong)

/-- 'foolscaplaw3.IndexLines': WHATEVER THE INPUT: true; the input reads as it did. -/
def indexLinesSpec : ChangeSpec := { name := "indexLines", fn := fun _ => fun
  | [d] => { results := [.lit (.bool true)], args := [d] }
  | _ => none }
def indexLinesRow : OpenClaim := { program := "ytbddehfcamgfhaa", sum := "ca56bad4ad4e3f96b0314549dd62666def60ab1bb8d9aad61cfb329dad3d1426", func := "foolscap/foolscaplaw3.IndexLines", spec := "indexLines", inPlace := ["slices.overlaps[int]"], unfollowed := true, recurses := true, apart := false }
def IndexLinesSaid : Prop := indexLinesRow.holds Try.pinned (OpenSpec.ofChange indexLinesSpec)

/-- ITS FALSE NEIGHBOUR: 'it returns false'. Refute it at one input. -/
def indexLinesWrong : ChangeSpec := { name := "indexLines", fn := fun _ => fun
  | [d] => { results := [.lit (.bool false)], args := [d] }
  | _ => none }
def IndexLinesWrongFalsely : Prop := indexLinesRow.holds Try.pinned (OpenSpec.ofChange indexLinesWrong)

/-- 'foolscaplaw3.IndexJoins': WHATEVER THE INPUT: true; the input reads as it did. -/
def indexJoinsSpec : ChangeSpec := { name := "indexJoins", fn := fun _ => fun
  | [d1, d2] => { results := [.lit (.bool true)], args := [d1, d2] }
  | _ => none }
def indexJoinsRow : OpenClaim := { program := "ytbddehfcamgfhaa", sum := "ca56bad4ad4e3f96b0314549dd62666def60ab1bb8d9aad61cfb329dad3d1426", func := "foolscap/foolscaplaw3.IndexJoins", spec := "indexJoins", inPlace := ["slices.overlaps[int]"], unfollowed := true, recurses := true, apart := false }
def IndexJoinsSaid : Prop := indexJoinsRow.holds Try.pinned (OpenSpec.ofChange indexJoinsSpec)

/-- ITS FALSE NEIGHBOUR: 'it returns false'. Refute it at one input. -/
def indexJoinsWrong : ChangeSpec := { name := "indexJoins", fn := fun _ => fun
  | [d1, d2] => { results := [.lit (.bool false)], args := [d1, d2] }
  | _ => none }
def IndexJoinsWrongFalsely : Prop := indexJoinsRow.holds Try.pinned (OpenSpec.ofChange indexJoinsWrong)

/-- 'foolscaplaw3.IndexPlays': WHATEVER THE INPUT: true; the input reads as it did. -/
def indexPlaysSpec : ChangeSpec := { name := "indexPlays", fn := fun _ => fun
  | [d1, d2] => { results := [.lit (.bool true)], args := [d1, d2] }
  | _ => none }
def indexPlaysRow : OpenClaim := { program := "ytbddehfcamgfhaa", sum := "ca56bad4ad4e3f96b0314549dd62666def60ab1bb8d9aad61cfb329dad3d1426", func := "foolscap/foolscaplaw3.IndexPlays", spec := "indexPlays", inPlace := ["slices.overlaps[int]"], unfollowed := true, recurses := true, apart := false }
def IndexPlaysSaid : Prop := indexPlaysRow.holds Try.pinned (OpenSpec.ofChange indexPlaysSpec)

/-- ITS FALSE NEIGHBOUR: 'it returns false'. Refute it at one input. -/
def indexPlaysWrong : ChangeSpec := { name := "indexPlays", fn := fun _ => fun
  | [d1, d2] => { results := [.lit (.bool false)], args := [d1, d2] }
  | _ => none }
def IndexPlaysWrongFalsely : Prop := indexPlaysRow.holds Try.pinned (OpenSpec.ofChange indexPlaysWrong)

/-- 'foolscaplaw3.IndexTyped': WHATEVER THE INPUT: true; the input reads as it did. -/
def indexTypedSpec : ChangeSpec := { name := "indexTyped", fn := fun _ => fun
  | [d1, d2] => { results := [.lit (.bool true)], args := [d1, d2] }
  | _ => none }
def indexTypedRow : OpenClaim := { program := "ytbddehfcamgfhaa", sum := "ca56bad4ad4e3f96b0314549dd62666def60ab1bb8d9aad61cfb329dad3d1426", func := "foolscap/foolscaplaw3.IndexTyped", spec := "indexTyped", inPlace := ["slices.overlaps[int]"], unfollowed := true, recurses := true, apart := false }
def IndexTypedSaid : Prop := indexTypedRow.holds Try.pinned (OpenSpec.ofChange indexTypedSpec)

/-- ITS FALSE NEIGHBOUR: 'it returns false'. Refute it at one input. -/
def indexTypedWrong : ChangeSpec := { name := "indexTyped", fn := fun _ => fun
  | [d1, d2] => { results := [.lit (.bool false)], args := [d1, d2] }
  | _ => none }
def IndexTypedWrongFalsely : Prop := indexTypedRow.holds Try.pinned (OpenSpec.ofChange indexTypedWrong)

/- THE SECOND FORM. 'bulk': how many values and letters a reading holds, each counted each time it is reached (what is shared counts as often as it is met; a slice's spare places count too). A statement '..UptoSaid' is the law's where the arguments, and the package variables that the reading takes, are together of bulk at most 1048576: NARROWER than '..Said'. Prove '..Said' where nothing that the law and all that it calls make is longer than what came in: it says more and counts as full. Else prove '..UptoSaid'. A law counts once. -/
mutual
def uptoBulk {H : Type} : DataW H → Nat
  | .lit (.string bytes) => bytes.length + 1
  | .lit _ => 1
  | .nil => 1
  | .ptr d => uptoBulk d + 1
  | .slice elems spare => uptoBulkAll elems + uptoBulkAll spare + 1
  | .agg parts => uptoBulkAll parts + 1
  | .iface _ d => uptoBulk d + 1
  | .map entries => uptoBulkEntries entries + 1
  | .held _ => 1
def uptoBulkAll {H : Type} : List (DataW H) → Nat
  | [] => 0
  | d :: r => uptoBulk d + uptoBulkAll r
def uptoBulkEntries {H : Type} : List (Lit × DataW H) → Nat
  | [] => 0
  | x :: r => uptoBulkEntry x + uptoBulkEntries r
def uptoBulkEntry {H : Type} : Lit × DataW H → Nat
  | (.string bytes, d) => bytes.length + uptoBulk d + 1
  | (_, d) => uptoBulk d + 1
 end
def uptoSmall : (H : Type) → List (DataW H) → Bool := fun _ ds => decide (uptoBulkAll ds ≤ 1048576)
def OpenSpec.upto (s : _root_.Go.ChangeSpec) : _root_.Go.OpenSpec := { _root_.Go.OpenSpec.ofChange s with cond := some uptoSmall }

/-- 'foolscaplaw3.IndexPlaces', WHERE WHAT IT READS IS OF BULK AT MOST 1048576: true; the input reads as it did. -/
def indexPlacesUptoRow : OpenClaim := { program := "ytbddehfcamgfhaa", sum := "ca56bad4ad4e3f96b0314549dd62666def60ab1bb8d9aad61cfb329dad3d1426", func := "foolscap/foolscaplaw3.IndexPlaces", spec := "indexPlaces", inPlace := ["slices.overlaps[int]"], unfollowed := true, recurses := true, apart := false, narrowed := true }
def IndexPlacesUptoSaid : Prop := indexPlacesUptoRow.holds Try.pinned (OpenSpec.upto indexPlacesSpec)

/-- 'foolscaplaw3.IndexLines', WHERE WHAT IT READS IS OF BULK AT MOST 1048576: true; the input reads as it did. -/
def indexLinesUptoRow : OpenClaim := { program := "ytbddehfcamgfhaa", sum := "ca56bad4ad4e3f96b0314549dd62666def60ab1bb8d9aad61cfb329dad3d1426", func := "foolscap/foolscaplaw3.IndexLines", spec := "indexLines", inPlace := ["slices.overlaps[int]"], unfollowed := true, recurses := true, apart := false, narrowed := true }
def IndexLinesUptoSaid : Prop := indexLinesUptoRow.holds Try.pinned (OpenSpec.upto indexLinesSpec)

/-- 'foolscaplaw3.IndexJoins', WHERE WHAT IT READS IS OF BULK AT MOST 1048576: true; the input reads as it did. -/
def indexJoinsUptoRow : OpenClaim := { program := "ytbddehfcamgfhaa", sum := "ca56bad4ad4e3f96b0314549dd62666def60ab1bb8d9aad61cfb329dad3d1426", func := "foolscap/foolscaplaw3.IndexJoins", spec := "indexJoins", inPlace := ["slices.overlaps[int]"], unfollowed := true, recurses := true, apart := false, narrowed := true }
def IndexJoinsUptoSaid : Prop := indexJoinsUptoRow.holds Try.pinned (OpenSpec.upto indexJoinsSpec)

/-- 'foolscaplaw3.IndexPlays', WHERE WHAT IT READS IS OF BULK AT MOST 1048576: true; the input reads as it did. -/
def indexPlaysUptoRow : OpenClaim := { program := "ytbddehfcamgfhaa", sum := "ca56bad4ad4e3f96b0314549dd62666def60ab1bb8d9aad61cfb329dad3d1426", func := "foolscap/foolscaplaw3.IndexPlays", spec := "indexPlays", inPlace := ["slices.overlaps[int]"], unfollowed := true, recurses := true, apart := false, narrowed := true }
def IndexPlaysUptoSaid : Prop := indexPlaysUptoRow.holds Try.pinned (OpenSpec.upto indexPlaysSpec)

/-- 'foolscaplaw3.IndexTyped', WHERE WHAT IT READS IS OF BULK AT MOST 1048576: true; the input reads as it did. -/
def indexTypedUptoRow : OpenClaim := { program := "ytbddehfcamgfhaa", sum := "ca56bad4ad4e3f96b0314549dd62666def60ab1bb8d9aad61cfb329dad3d1426", func := "foolscap/foolscaplaw3.IndexTyped", spec := "indexTyped", inPlace := ["slices.overlaps[int]"], unfollowed := true, recurses := true, apart := false, narrowed := true }
def IndexTypedUptoSaid : Prop := indexTypedUptoRow.holds Try.pinned (OpenSpec.upto indexTypedSpec)

end Rows
end Go.Proofs.Ytbddehfcamgfhaa
