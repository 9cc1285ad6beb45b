/-
  No cell of these rows narrows 'for every input' (looked for: loops, veiled, ifaces, maps, wideKeys, modest, calm, conditions, laid).
  DERIVED. THE GIVEN ROWS OF THIS SEAT. 3 by the template 'for every input the law returns true; each argument reads behind the call as it read before'; 0 by the template 'total and deterministic' (their statements: YtaekfmbfejgldaaTotals.lean).
  GIVEN WITH THE SEED: the statements are not yours to turn. If you find one false, say at which input.
  Laid BY PROGRAM, IN A SANDBOX (cutbox-rows.mjs): the forced cells as the released guide's own fill.sh prints them over the translation 09f9bd634e0cbe68… (all of the seat's roots in one cut). By AI agents, Wed Nov 11 2026. No macro, syntax, notation, axiom, sorry.
-/
import Derived.Test.YtaekfmbfejgldaaChecked
import GoSem.Claim
import GoSem.ClaimJoined
import GoSem.ClaimMapViews
import Derived.JoinedTies
import Derived.KernelRfl
namespace Go.Proofs.Ytaekfmbfejgldaa
/- THE CELL 'sum', in the pinned program and in every row, IS THE sha256 OF THE DUMP (.gsa) THAT YtaekfmbfejgldaaProg.lean LOADS. Nothing in Lean hashes anything: it is a label: what it is worth is what the hold of that sum in a sandbox is worth. -/
noncomputable def Try.pinned : Pinned := { name := "ytaekfmbfejgldaa", sum := "09f9bd634e0cbe6813735d9fda23a10e334e8146f3230529c94f2da05bf5c04c", checked := Try.checked }
namespace Rows
def none {H : Type} : Left H := { results := [], args := [] }

/-- 'foolscaplaw14.JumpsBack': WHATEVER THE INPUT: true; the input reads as it did. -/
def jumpsBackSpec : ChangeSpec := { name := "jumpsBack", fn := fun _ => fun
  | [d1, d2, d3] => { results := [.lit (.bool true)], args := [d1, d2, d3] }
  | _ => none }
def jumpsBackRow : OpenClaim := { program := "ytaekfmbfejgldaa", sum := "09f9bd634e0cbe6813735d9fda23a10e334e8146f3230529c94f2da05bf5c04c", func := "foolscap/foolscaplaw14.JumpsBack", spec := "jumpsBack", inPlace := ["slices.overlaps[foolscap/api.Pos]"], unfollowed := true, recurses := true, apart := false }
def JumpsBackSaid : Prop := jumpsBackRow.holds Try.pinned (OpenSpec.ofChange jumpsBackSpec)

/-- ITS FALSE NEIGHBOUR: 'it returns false'. Refute it at one input. -/
def jumpsBackWrong : ChangeSpec := { name := "jumpsBack", fn := fun _ => fun
  | [d1, d2, d3] => { results := [.lit (.bool false)], args := [d1, d2, d3] }
  | _ => none }
def JumpsBackWrongFalsely : Prop := jumpsBackRow.holds Try.pinned (OpenSpec.ofChange jumpsBackWrong)

/-- 'foolscaplaw14.JumpsMany': WHATEVER THE INPUT: true; the input reads as it did. -/
def jumpsManySpec : ChangeSpec := { name := "jumpsMany", fn := fun _ => fun
  | [d] => { results := [.lit (.bool true)], args := [d] }
  | _ => none }
def jumpsManyRow : OpenClaim := { program := "ytaekfmbfejgldaa", sum := "09f9bd634e0cbe6813735d9fda23a10e334e8146f3230529c94f2da05bf5c04c", func := "foolscap/foolscaplaw14.JumpsMany", spec := "jumpsMany", inPlace := ["slices.overlaps[foolscap/api.Pos]"], unfollowed := true, recurses := true, apart := false }
def JumpsManySaid : Prop := jumpsManyRow.holds Try.pinned (OpenSpec.ofChange jumpsManySpec)

/-- ITS FALSE NEIGHBOUR: 'it returns false'. Refute it at one input. -/
def jumpsManyWrong : ChangeSpec := { name := "jumpsMany", fn := fun _ => fun
  | [d] => { results := [.lit (.bool false)], args := [d] }
  | _ => none }
def JumpsManyWrongFalsely : Prop := jumpsManyRow.holds Try.pinned (OpenSpec.ofChange jumpsManyWrong)

/-- 'foolscaplaw14.JumpsPlay': WHATEVER THE INPUT: true; the input reads as it did. -/
def jumpsPlaySpec : ChangeSpec := { name := "jumpsPlay", fn := fun _ => fun
  | [d] => { results := [.lit (.bool true)], args := [d] }
  | _ => none }
def jumpsPlayRow : OpenClaim := { program := "ytaekfmbfejgldaa", sum := "09f9bd634e0cbe6813735d9fda23a10e334e8146f3230529c94f2da05bf5c04c", func := "foolscap/foolscaplaw14.JumpsPlay", spec := "jumpsPlay", inPlace := ["slices.overlaps[foolscap/api.Pos]"], unfollowed := true, recurses := true, apart := false }
def JumpsPlaySaid : Prop := jumpsPlayRow.holds Try.pinned (OpenSpec.ofChange jumpsPlaySpec)

/-- ITS FALSE NEIGHBOUR: 'it returns false'. Refute it at one input. -/
def jumpsPlayWrong : ChangeSpec := { name := "jumpsPlay", fn := fun _ => fun
  | [d] => { results := [.lit (.bool false)], args := [d] }
  | _ => none }
def JumpsPlayWrongFalsely : Prop := jumpsPlayRow.holds Try.pinned (OpenSpec.ofChange jumpsPlayWrong)

/- THE SECOND FORM. 'bulk': how many values and letters a reading holds, each counted each time it is reached (what is shared counts as often as it is met; a slice's spare places count too). A statement '..UptoSaid' is the law's where the arguments, and the package variables that the reading takes, are together of bulk at most 1048576: NARROWER than '..Said'. Prove '..Said' where nothing that the law and all that it calls make is longer than what came in: it says more and counts as full. Else prove '..UptoSaid'. A law counts once. -/
mutual
def uptoBulk {H : Type} : DataW H → Nat
  | .lit (.string bytes) => bytes.length + 1
  | .lit _ => 1
  | .nil => 1
  | .ptr d => uptoBulk d + 1
  | .slice elems spare => uptoBulkAll elems + uptoBulkAll spare + 1
  | .agg parts => uptoBulkAll parts + 1
  | .iface _ d => uptoBulk d + 1
  | .map entries => uptoBulkEntries entries + 1
  | .held _ => 1
def uptoBulkAll {H : Type} : List (DataW H) → Nat
  | [] => 0
  | d :: r => uptoBulk d + uptoBulkAll r
def uptoBulkEntries {H : Type} : List (Lit × DataW H) → Nat
  | [] => 0
  | x :: r => uptoBulkEntry x + uptoBulkEntries r
def uptoBulkEntry {H : Type} : Lit × DataW H → Nat
  | (.string bytes, d) => bytes.length + uptoBulk d + 1
  | (_, d) => uptoBulk d + 1
 end
def uptoSmall : (H : Type) → List (DataW H) → Bool := fun _ ds => decide (uptoBulkAll ds ≤ 1048576)
def OpenSpec.upto (s : _root_.Go.ChangeSpec) : _root_.Go.OpenSpec := { _root_.Go.OpenSpec.ofChange s with cond := some uptoSmall }

/-- 'foolscaplaw14.JumpsBack', WHERE WHAT IT READS IS OF BULK AT MOST 1048576: true; the input reads as it did. -/
def jumpsBackUptoRow : OpenClaim := { program := "ytaekfmbfejgldaa", sum := "09f9bd634e0cbe6813735d9fda23a10e334e8146f3230529c94f2da05bf5c04c", func := "foolscap/foolscaplaw14.JumpsBack", spec := "jumpsBack", inPlace := ["slices.overlaps[foolscap/api.Pos]"], unfollowed := true, recurses := true, apart := false, narrowed := true }
def JumpsBackUptoSaid : Prop := jumpsBackUptoRow.holds Try.pinned (OpenSpec.upto jumpsBackSpec)

/-- 'foolscaplaw14.JumpsMany', WHERE WHAT IT READS IS OF BULK AT MOST 1048576: true; the input reads as it did. -/
def jumpsManyUptoRow : OpenClaim := { program := "ytaekfmbfejgldaa", sum := "09f9bd634e0cbe6813735d9fda23a10e334e8146f3230529c94f2da05bf5c04c", func := "foolscap/foolscaplaw14.JumpsMany", spec := "jumpsMany", inPlace := ["slices.overlaps[foolscap/api.Pos]"], unfollowed := true, recurses := true, apart := false, narrowed := true }
def JumpsManyUptoSaid : Prop := jumpsManyUptoRow.holds Try.pinned (OpenSpec.upto jumpsManySpec)

/-- 'foolscaplaw14.JumpsPlay', WHERE WHAT IT READS IS OF BULK AT MOST 1048576: true; the input reads as it did. -/
def jumpsPlayUptoRow : OpenClaim := { program := "ytaekfmbfejgldaa", sum := "09f9bd634e0cbe6813735d9fda23a10e334e8146f3230529c94f2da05bf5c04c", func := "foolscap/foolscaplaw14.JumpsPlay", spec := "jumpsPlay", inPlace := ["slices.overlaps[foolscap/api.Pos]"], unfollowed := true, recurses := true, apart := false, narrowed := true }
def JumpsPlayUptoSaid : Prop := jumpsPlayUptoRow.holds Try.pinned (OpenSpec.upto jumpsPlaySpec)

end Rows
end Go.Proofs.Ytaekfmbfejgldaa
