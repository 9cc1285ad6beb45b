/-
  No cell of these rows narrows 'for every input' (looked for: loops, veiled, ifaces, maps, wideKeys, modest, calm, conditions, laid).
  DERIVED. THE GIVEN ROWS OF THIS SEAT. 6 by the template 'for every input the law returns true; each argument reads behind the call as it read before'; 0 by the template 'total and deterministic' (their statements: YtdlcmehopnhmgaaTotals.lean).
  GIVEN WITH THE SEED: the statements are not yours to turn. If you find one false, say at which input.
  Laid BY PROGRAM, IN A SANDBOX (cutbox-rows.mjs): the forced cells as the released guide's own fill.sh prints them over the translation dc208a20105707a7… (all of the seat's roots in one cut). By AI agents, Wed Nov 11 2026. No macro, syntax, notation, axiom, sorry.
-/
import Derived.Test.YtdlcmehopnhmgaaChecked
import GoSem.Claim
import GoSem.ClaimJoined
import GoSem.ClaimMapViews
import Derived.JoinedTies
import Derived.KernelRfl
namespace Go.Proofs.Ytdlcmehopnhmgaa
/- THE CELL 'sum', in the pinned program and in every row, IS THE sha256 OF THE DUMP (.gsa) THAT YtdlcmehopnhmgaaProg.lean LOADS. Nothing in Lean hashes anything: it is a label: what it is worth is what the hold of that sum in a sandbox is worth. -/
noncomputable def Try.pinned : Pinned := { name := "ytdlcmehopnhmgaa", sum := "dc208a20105707a740ead43efbfe65e68b1c19ed9a0516ab992e078baefecc46", checked := Try.checked }
namespace Rows
def none {H : Type} : Left H := { results := [], args := [] }

/-- 'foolscaplaw2.PieceSlices': WHATEVER THE INPUT: true; the input reads as it did. -/
def pieceSlicesSpec : ChangeSpec := { name := "pieceSlices", fn := fun _ => fun
  | [d1, d2, d3, d4, d5] => { results := [.lit (.bool true)], args := [d1, d2, d3, d4, d5] }
  | _ => none }
def pieceSlicesRow : OpenClaim := { program := "ytdlcmehopnhmgaa", sum := "dc208a20105707a740ead43efbfe65e68b1c19ed9a0516ab992e078baefecc46", func := "foolscap/foolscaplaw2.PieceSlices", spec := "pieceSlices", inPlace := ["slices.overlaps[foolscap/piece.piece]"], unfollowed := true, recurses := true, apart := false }
def PieceSlicesSaid : Prop := pieceSlicesRow.holds Try.pinned (OpenSpec.ofChange pieceSlicesSpec)

/-- ITS FALSE NEIGHBOUR: 'it returns false'. Refute it at one input. -/
def pieceSlicesWrong : ChangeSpec := { name := "pieceSlices", fn := fun _ => fun
  | [d1, d2, d3, d4, d5] => { results := [.lit (.bool false)], args := [d1, d2, d3, d4, d5] }
  | _ => none }
def PieceSlicesWrongFalsely : Prop := pieceSlicesRow.holds Try.pinned (OpenSpec.ofChange pieceSlicesWrong)

/-- 'foolscaplaw2.PieceLimit': WHATEVER THE INPUT: true; the input reads as it did. -/
def pieceLimitSpec : ChangeSpec := { name := "pieceLimit", fn := fun _ => fun
  | [d1, d2, d3] => { results := [.lit (.bool true)], args := [d1, d2, d3] }
  | _ => none }
def pieceLimitRow : OpenClaim := { program := "ytdlcmehopnhmgaa", sum := "dc208a20105707a740ead43efbfe65e68b1c19ed9a0516ab992e078baefecc46", func := "foolscap/foolscaplaw2.PieceLimit", spec := "pieceLimit", inPlace := ["slices.overlaps[foolscap/piece.piece]"], unfollowed := true, recurses := true, apart := false }
def PieceLimitSaid : Prop := pieceLimitRow.holds Try.pinned (OpenSpec.ofChange pieceLimitSpec)

/-- ITS FALSE NEIGHBOUR: 'it returns false'. Refute it at one input. -/
def pieceLimitWrong : ChangeSpec := { name := "pieceLimit", fn := fun _ => fun
  | [d1, d2, d3] => { results := [.lit (.bool false)], args := [d1, d2, d3] }
  | _ => none }
def PieceLimitWrongFalsely : Prop := pieceLimitRow.holds Try.pinned (OpenSpec.ofChange pieceLimitWrong)

/-- 'foolscaplaw2.PieceBreaks': WHATEVER THE INPUT: true; the input reads as it did. -/
def pieceBreaksSpec : ChangeSpec := { name := "pieceBreaks", fn := fun _ => fun
  | [d1, d2] => { results := [.lit (.bool true)], args := [d1, d2] }
  | _ => none }
def pieceBreaksRow : OpenClaim := { program := "ytdlcmehopnhmgaa", sum := "dc208a20105707a740ead43efbfe65e68b1c19ed9a0516ab992e078baefecc46", func := "foolscap/foolscaplaw2.PieceBreaks", spec := "pieceBreaks", inPlace := ["slices.overlaps[foolscap/piece.piece]"], unfollowed := true, recurses := true, apart := false }
def PieceBreaksSaid : Prop := pieceBreaksRow.holds Try.pinned (OpenSpec.ofChange pieceBreaksSpec)

/-- ITS FALSE NEIGHBOUR: 'it returns false'. Refute it at one input. -/
def pieceBreaksWrong : ChangeSpec := { name := "pieceBreaks", fn := fun _ => fun
  | [d1, d2] => { results := [.lit (.bool false)], args := [d1, d2] }
  | _ => none }
def PieceBreaksWrongFalsely : Prop := pieceBreaksRow.holds Try.pinned (OpenSpec.ofChange pieceBreaksWrong)

/-- 'foolscaplaw2.PiecePlays': WHATEVER THE INPUT: true; the input reads as it did. -/
def piecePlaysSpec : ChangeSpec := { name := "piecePlays", fn := fun _ => fun
  | [d1, d2, d3] => { results := [.lit (.bool true)], args := [d1, d2, d3] }
  | _ => none }
def piecePlaysRow : OpenClaim := { program := "ytdlcmehopnhmgaa", sum := "dc208a20105707a740ead43efbfe65e68b1c19ed9a0516ab992e078baefecc46", func := "foolscap/foolscaplaw2.PiecePlays", spec := "piecePlays", inPlace := ["slices.overlaps[foolscap/piece.piece]"], unfollowed := true, recurses := true, apart := false }
def PiecePlaysSaid : Prop := piecePlaysRow.holds Try.pinned (OpenSpec.ofChange piecePlaysSpec)

/-- ITS FALSE NEIGHBOUR: 'it returns false'. Refute it at one input. -/
def piecePlaysWrong : ChangeSpec := { name := "piecePlays", fn := fun _ => fun
  | [d1, d2, d3] => { results := [.lit (.bool false)], args := [d1, d2, d3] }
  | _ => none }
def PiecePlaysWrongFalsely : Prop := piecePlaysRow.holds Try.pinned (OpenSpec.ofChange piecePlaysWrong)

/-- 'foolscaplaw2.PieceTyped': WHATEVER THE INPUT: true; the input reads as it did. -/
def pieceTypedSpec : ChangeSpec := { name := "pieceTyped", fn := fun _ => fun
  | [d1, d2, d3] => { results := [.lit (.bool true)], args := [d1, d2, d3] }
  | _ => none }
def pieceTypedRow : OpenClaim := { program := "ytdlcmehopnhmgaa", sum := "dc208a20105707a740ead43efbfe65e68b1c19ed9a0516ab992e078baefecc46", func := "foolscap/foolscaplaw2.PieceTyped", spec := "pieceTyped", inPlace := ["slices.overlaps[foolscap/piece.piece]"], unfollowed := true, recurses := true, apart := false }
def PieceTypedSaid : Prop := pieceTypedRow.holds Try.pinned (OpenSpec.ofChange pieceTypedSpec)

/-- ITS FALSE NEIGHBOUR: 'it returns false'. Refute it at one input. -/
def pieceTypedWrong : ChangeSpec := { name := "pieceTyped", fn := fun _ => fun
  | [d1, d2, d3] => { results := [.lit (.bool false)], args := [d1, d2, d3] }
  | _ => none }
def PieceTypedWrongFalsely : Prop := pieceTypedRow.holds Try.pinned (OpenSpec.ofChange pieceTypedWrong)

/-- 'foolscaplaw2.PieceCuts': WHATEVER THE INPUT: true; the input reads as it did. -/
def pieceCutsSpec : ChangeSpec := { name := "pieceCuts", fn := fun _ => fun
  | [d1, d2, d3] => { results := [.lit (.bool true)], args := [d1, d2, d3] }
  | _ => none }
def pieceCutsRow : OpenClaim := { program := "ytdlcmehopnhmgaa", sum := "dc208a20105707a740ead43efbfe65e68b1c19ed9a0516ab992e078baefecc46", func := "foolscap/foolscaplaw2.PieceCuts", spec := "pieceCuts", inPlace := ["slices.overlaps[foolscap/piece.piece]"], unfollowed := true, recurses := true, apart := false }
def PieceCutsSaid : Prop := pieceCutsRow.holds Try.pinned (OpenSpec.ofChange pieceCutsSpec)

/-- ITS FALSE NEIGHBOUR: 'it returns false'. Refute it at one input. -/
def pieceCutsWrong : ChangeSpec := { name := "pieceCuts", fn := fun _ => fun
  | [d1, d2, d3] => { results := [.lit (.bool false)], args := [d1, d2, d3] }
  | _ => none }
def PieceCutsWrongFalsely : Prop := pieceCutsRow.holds Try.pinned (OpenSpec.ofChange pieceCutsWrong)

/- THE SECOND FORM. 'bulk': how many values and letters a reading holds, each counted each time it is reached (what is shared counts as often as it is met; a slice's spare places count too). A statement '..UptoSaid' is the law's where the arguments, and the package variables that the reading takes, are together of bulk at most 1048576: NARROWER than '..Said'. Prove '..Said' where nothing that the law and all that it calls make is longer than what came in: it says more and counts as full. Else prove '..UptoSaid'. A law counts once. -/
mutual
def uptoBulk {H : Type} : DataW H → Nat
  | .lit (.string bytes) => bytes.length + 1
  | .lit _ => 1
  | .nil => 1
  | .ptr d => uptoBulk d + 1
  | .slice elems spare => uptoBulkAll elems + uptoBulkAll spare + 1
  | .agg parts => uptoBulkAll parts + 1
  | .iface _ d => uptoBulk d + 1
  | .map entries => uptoBulkEntries entries + 1
  | .held _ => 1
def uptoBulkAll {H : Type} : List (DataW H) → Nat
  | [] => 0
  | d :: r => uptoBulk d + uptoBulkAll r
def uptoBulkEntries {H : Type} : List (Lit × DataW H) → Nat
  | [] => 0
  | x :: r => uptoBulkEntry x + uptoBulkEntries r
def uptoBulkEntry {H : Type} : Lit × DataW H → Nat
  | (.string bytes, d) => bytes.length + uptoBulk d + 1
  | (_, d) => uptoBulk d + 1
 end
def uptoSmall : (H : Type) → List (DataW H) → Bool := fun _ ds => decide (uptoBulkAll ds ≤ 1048576)
def OpenSpec.upto (s : _root_.Go.ChangeSpec) : _root_.Go.OpenSpec := { _root_.Go.OpenSpec.ofChange s with cond := some uptoSmall }

/-- 'foolscaplaw2.PieceSlices', WHERE WHAT IT READS IS OF BULK AT MOST 1048576: true; the input reads as it did. -/
def pieceSlicesUptoRow : OpenClaim := { program := "ytdlcmehopnhmgaa", sum := "dc208a20105707a740ead43efbfe65e68b1c19ed9a0516ab992e078baefecc46", func := "foolscap/foolscaplaw2.PieceSlices", spec := "pieceSlices", inPlace := ["slices.overlaps[foolscap/piece.piece]"], unfollowed := true, recurses := true, apart := false, narrowed := true }
def PieceSlicesUptoSaid : Prop := pieceSlicesUptoRow.holds Try.pinned (OpenSpec.upto pieceSlicesSpec)

/-- 'foolscaplaw2.PieceLimit', WHERE WHAT IT READS IS OF BULK AT MOST 1048576: true; the input reads as it did. -/
def pieceLimitUptoRow : OpenClaim := { program := "ytdlcmehopnhmgaa", sum := "dc208a20105707a740ead43efbfe65e68b1c19ed9a0516ab992e078baefecc46", func := "foolscap/foolscaplaw2.PieceLimit", spec := "pieceLimit", inPlace := ["slices.overlaps[foolscap/piece.piece]"], unfollowed := true, recurses := true, apart := false, narrowed := true }
def PieceLimitUptoSaid : Prop := pieceLimitUptoRow.holds Try.pinned (OpenSpec.upto pieceLimitSpec)

/-- 'foolscaplaw2.PieceBreaks', WHERE WHAT IT READS IS OF BULK AT MOST 1048576: true; the input reads as it did. -/
def pieceBreaksUptoRow : OpenClaim := { program := "ytdlcmehopnhmgaa", sum := "dc208a20105707a740ead43efbfe65e68b1c19ed9a0516ab992e078baefecc46", func := "foolscap/foolscaplaw2.PieceBreaks", spec := "pieceBreaks", inPlace := ["slices.overlaps[foolscap/piece.piece]"], unfollowed := true, recurses := true, apart := false, narrowed := true }
def PieceBreaksUptoSaid : Prop := pieceBreaksUptoRow.holds Try.pinned (OpenSpec.upto pieceBreaksSpec)

/-- 'foolscaplaw2.PiecePlays', WHERE WHAT IT READS IS OF BULK AT MOST 1048576: true; the input reads as it did. -/
def piecePlaysUptoRow : OpenClaim := { program := "ytdlcmehopnhmgaa", sum := "dc208a20105707a740ead43efbfe65e68b1c19ed9a0516ab992e078baefecc46", func := "foolscap/foolscaplaw2.PiecePlays", spec := "piecePlays", inPlace := ["slices.overlaps[foolscap/piece.piece]"], unfollowed := true, recurses := true, apart := false, narrowed := true }
def PiecePlaysUptoSaid : Prop := piecePlaysUptoRow.holds Try.pinned (OpenSpec.upto piecePlaysSpec)

/-- 'foolscaplaw2.PieceTyped', WHERE WHAT IT READS IS OF BULK AT MOST 1048576: true; the input reads as it did. -/
def pieceTypedUptoRow : OpenClaim := { program := "ytdlcmehopnhmgaa", sum := "dc208a20105707a740ead43efbfe65e68b1c19ed9a0516ab992e078baefecc46", func := "foolscap/foolscaplaw2.PieceTyped", spec := "pieceTyped", inPlace := ["slices.overlaps[foolscap/piece.piece]"], unfollowed := true, recurses := true, apart := false, narrowed := true }
def PieceTypedUptoSaid : Prop := pieceTypedUptoRow.holds Try.pinned (OpenSpec.upto pieceTypedSpec)

/-- 'foolscaplaw2.PieceCuts', WHERE WHAT IT READS IS OF BULK AT MOST 1048576: true; the input reads as it did. -/
def pieceCutsUptoRow : OpenClaim := { program := "ytdlcmehopnhmgaa", sum := "dc208a20105707a740ead43efbfe65e68b1c19ed9a0516ab992e078baefecc46", func := "foolscap/foolscaplaw2.PieceCuts", spec := "pieceCuts", inPlace := ["slices.overlaps[foolscap/piece.piece]"], unfollowed := true, recurses := true, apart := false, narrowed := true }
def PieceCutsUptoSaid : Prop := pieceCutsUptoRow.holds Try.pinned (OpenSpec.upto pieceCutsSpec)

end Rows
end Go.Proofs.Ytdlcmehopnhmgaa
