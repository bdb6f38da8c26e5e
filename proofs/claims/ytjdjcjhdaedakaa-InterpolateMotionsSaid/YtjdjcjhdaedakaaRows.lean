/-
  No cell of these rows narrows 'for every input' (looked for: loops, veiled, ifaces, maps, wideKeys, modest, calm, conditions, laid).
  DERIVED. THE GIVEN ROWS OF THIS SEAT. 8 by the template 'for every input the law returns true; each argument reads behind the call as it read before'; 0 by the template 'total and deterministic' (their statements: YtjdjcjhdaedakaaTotals.lean).
  GIVEN WITH THE SEED: the statements are not yours to turn. If you find one false, say at which input.
  Laid BY PROGRAM, IN A SANDBOX (cutbox-rows.mjs): the forced cells as the released guide's own fill.sh prints them over the translation d371beb34003309f… (all of the seat's roots in one cut). By AI agents, Wed Nov 11 2026. No macro, syntax, notation, axiom, sorry.
-/
import Derived.Test.YtjdjcjhdaedakaaChecked
import GoSem.Claim
import GoSem.ClaimJoined
import GoSem.ClaimMapViews
import Derived.JoinedTies
import Derived.KernelRfl
namespace Go.Proofs.Ytjdjcjhdaedakaa
/- THE CELL 'sum', in the pinned program and in every row, IS THE sha256 OF THE DUMP (.gsa) THAT YtjdjcjhdaedakaaProg.lean LOADS. Nothing in Lean hashes anything: it is a label: what it is worth is what the hold of that sum in a sandbox is worth. -/
noncomputable def Try.pinned : Pinned := { name := "ytjdjcjhdaedakaa", sum := "d371beb34003309f466f3d7a1bb6972c095febd26ac20584921c200e695d7c83", checked := Try.checked }
namespace Rows
def none {H : Type} : Left H := { results := [], args := [] }

/-- 'swarflaw33.InterpolateValid': WHATEVER THE INPUT: true; the input reads as it did. -/
def interpolateValidSpec : ChangeSpec := { name := "interpolateValid", fn := fun _ => fun
  | [d1, d2] => { results := [.lit (.bool true)], args := [d1, d2] }
  | _ => none }
def interpolateValidRow : OpenClaim := { program := "ytjdjcjhdaedakaa", sum := "d371beb34003309f466f3d7a1bb6972c095febd26ac20584921c200e695d7c83", func := "swarf/swarflaw33.InterpolateValid", spec := "interpolateValid", apart := false }
def InterpolateValidSaid : Prop := interpolateValidRow.holds Try.pinned (OpenSpec.ofChange interpolateValidSpec)

/-- ITS FALSE NEIGHBOUR: 'it returns false'. Refute it at one input. -/
def interpolateValidWrong : ChangeSpec := { name := "interpolateValid", fn := fun _ => fun
  | [d1, d2] => { results := [.lit (.bool false)], args := [d1, d2] }
  | _ => none }
def InterpolateValidWrongFalsely : Prop := interpolateValidRow.holds Try.pinned (OpenSpec.ofChange interpolateValidWrong)

/-- 'swarflaw33.InterpolateChords': WHATEVER THE INPUT: true; the input reads as it did. -/
def interpolateChordsSpec : ChangeSpec := { name := "interpolateChords", fn := fun _ => fun
  | [d] => { results := [.lit (.bool true)], args := [d] }
  | _ => none }
def interpolateChordsRow : OpenClaim := { program := "ytjdjcjhdaedakaa", sum := "d371beb34003309f466f3d7a1bb6972c095febd26ac20584921c200e695d7c83", func := "swarf/swarflaw33.InterpolateChords", spec := "interpolateChords", apart := false }
def InterpolateChordsSaid : Prop := interpolateChordsRow.holds Try.pinned (OpenSpec.ofChange interpolateChordsSpec)

/-- ITS FALSE NEIGHBOUR: 'it returns false'. Refute it at one input. -/
def interpolateChordsWrong : ChangeSpec := { name := "interpolateChords", fn := fun _ => fun
  | [d] => { results := [.lit (.bool false)], args := [d] }
  | _ => none }
def InterpolateChordsWrongFalsely : Prop := interpolateChordsRow.holds Try.pinned (OpenSpec.ofChange interpolateChordsWrong)

/-- 'swarflaw33.InterpolateArc': WHATEVER THE INPUT: true; the input reads as it did. -/
def interpolateArcSpec : ChangeSpec := { name := "interpolateArc", fn := fun _ => fun
  | [d1, d2] => { results := [.lit (.bool true)], args := [d1, d2] }
  | _ => none }
def interpolateArcRow : OpenClaim := { program := "ytjdjcjhdaedakaa", sum := "d371beb34003309f466f3d7a1bb6972c095febd26ac20584921c200e695d7c83", func := "swarf/swarflaw33.InterpolateArc", spec := "interpolateArc", apart := false }
def InterpolateArcSaid : Prop := interpolateArcRow.holds Try.pinned (OpenSpec.ofChange interpolateArcSpec)

/-- ITS FALSE NEIGHBOUR: 'it returns false'. Refute it at one input. -/
def interpolateArcWrong : ChangeSpec := { name := "interpolateArc", fn := fun _ => fun
  | [d1, d2] => { results := [.lit (.bool false)], args := [d1, d2] }
  | _ => none }
def InterpolateArcWrongFalsely : Prop := interpolateArcRow.holds Try.pinned (OpenSpec.ofChange interpolateArcWrong)

/-- 'swarflaw33.InterpolateInside': WHATEVER THE INPUT: true; the input reads as it did. -/
def interpolateInsideSpec : ChangeSpec := { name := "interpolateInside", fn := fun _ => fun
  | [d1, d2] => { results := [.lit (.bool true)], args := [d1, d2] }
  | _ => none }
def interpolateInsideRow : OpenClaim := { program := "ytjdjcjhdaedakaa", sum := "d371beb34003309f466f3d7a1bb6972c095febd26ac20584921c200e695d7c83", func := "swarf/swarflaw33.InterpolateInside", spec := "interpolateInside", apart := false }
def InterpolateInsideSaid : Prop := interpolateInsideRow.holds Try.pinned (OpenSpec.ofChange interpolateInsideSpec)

/-- ITS FALSE NEIGHBOUR: 'it returns false'. Refute it at one input. -/
def interpolateInsideWrong : ChangeSpec := { name := "interpolateInside", fn := fun _ => fun
  | [d1, d2] => { results := [.lit (.bool false)], args := [d1, d2] }
  | _ => none }
def InterpolateInsideWrongFalsely : Prop := interpolateInsideRow.holds Try.pinned (OpenSpec.ofChange interpolateInsideWrong)

/-- 'swarflaw33.InterpolateNear': WHATEVER THE INPUT: true; the input reads as it did. -/
def interpolateNearSpec : ChangeSpec := { name := "interpolateNear", fn := fun _ => fun
  | [d1, d2] => { results := [.lit (.bool true)], args := [d1, d2] }
  | _ => none }
def interpolateNearRow : OpenClaim := { program := "ytjdjcjhdaedakaa", sum := "d371beb34003309f466f3d7a1bb6972c095febd26ac20584921c200e695d7c83", func := "swarf/swarflaw33.InterpolateNear", spec := "interpolateNear", apart := false }
def InterpolateNearSaid : Prop := interpolateNearRow.holds Try.pinned (OpenSpec.ofChange interpolateNearSpec)

/-- ITS FALSE NEIGHBOUR: 'it returns false'. Refute it at one input. -/
def interpolateNearWrong : ChangeSpec := { name := "interpolateNear", fn := fun _ => fun
  | [d1, d2] => { results := [.lit (.bool false)], args := [d1, d2] }
  | _ => none }
def InterpolateNearWrongFalsely : Prop := interpolateNearRow.holds Try.pinned (OpenSpec.ofChange interpolateNearWrong)

/-- 'swarflaw33.InterpolateMirrored': WHATEVER THE INPUT: true; the input reads as it did. -/
def interpolateMirroredSpec : ChangeSpec := { name := "interpolateMirrored", fn := fun _ => fun
  | [d1, d2] => { results := [.lit (.bool true)], args := [d1, d2] }
  | _ => none }
def interpolateMirroredRow : OpenClaim := { program := "ytjdjcjhdaedakaa", sum := "d371beb34003309f466f3d7a1bb6972c095febd26ac20584921c200e695d7c83", func := "swarf/swarflaw33.InterpolateMirrored", spec := "interpolateMirrored", apart := false }
def InterpolateMirroredSaid : Prop := interpolateMirroredRow.holds Try.pinned (OpenSpec.ofChange interpolateMirroredSpec)

/-- ITS FALSE NEIGHBOUR: 'it returns false'. Refute it at one input. -/
def interpolateMirroredWrong : ChangeSpec := { name := "interpolateMirrored", fn := fun _ => fun
  | [d1, d2] => { results := [.lit (.bool false)], args := [d1, d2] }
  | _ => none }
def InterpolateMirroredWrongFalsely : Prop := interpolateMirroredRow.holds Try.pinned (OpenSpec.ofChange interpolateMirroredWrong)

/-- 'swarflaw33.InterpolatePositions': WHATEVER THE INPUT: true; the input reads as it did. -/
def interpolatePositionsSpec : ChangeSpec := { name := "interpolatePositions", fn := fun _ => fun
  | [d1, d2] => { results := [.lit (.bool true)], args := [d1, d2] }
  | _ => none }
def interpolatePositionsRow : OpenClaim := { program := "ytjdjcjhdaedakaa", sum := "d371beb34003309f466f3d7a1bb6972c095febd26ac20584921c200e695d7c83", func := "swarf/swarflaw33.InterpolatePositions", spec := "interpolatePositions", unfollowed := true, recurses := true, apart := false }
def InterpolatePositionsSaid : Prop := interpolatePositionsRow.holds Try.pinned (OpenSpec.ofChange interpolatePositionsSpec)

/-- ITS FALSE NEIGHBOUR: 'it returns false'. Refute it at one input. -/
def interpolatePositionsWrong : ChangeSpec := { name := "interpolatePositions", fn := fun _ => fun
  | [d1, d2] => { results := [.lit (.bool false)], args := [d1, d2] }
  | _ => none }
def InterpolatePositionsWrongFalsely : Prop := interpolatePositionsRow.holds Try.pinned (OpenSpec.ofChange interpolatePositionsWrong)

/-- 'swarflaw33.InterpolateMotions': WHATEVER THE INPUT: true; the input reads as it did. -/
def interpolateMotionsSpec : ChangeSpec := { name := "interpolateMotions", fn := fun _ => fun
  | [d1, d2, d3] => { results := [.lit (.bool true)], args := [d1, d2, d3] }
  | _ => none }
def interpolateMotionsRow : OpenClaim := { program := "ytjdjcjhdaedakaa", sum := "d371beb34003309f466f3d7a1bb6972c095febd26ac20584921c200e695d7c83", func := "swarf/swarflaw33.InterpolateMotions", spec := "interpolateMotions", unfollowed := true, recurses := true, apart := false }
def InterpolateMotionsSaid : Prop := interpolateMotionsRow.holds Try.pinned (OpenSpec.ofChange interpolateMotionsSpec)

/-- ITS FALSE NEIGHBOUR: 'it returns false'. Refute it at one input. -/
def interpolateMotionsWrong : ChangeSpec := { name := "interpolateMotions", fn := fun _ => fun
  | [d1, d2, d3] => { results := [.lit (.bool false)], args := [d1, d2, d3] }
  | _ => none }
def InterpolateMotionsWrongFalsely : Prop := interpolateMotionsRow.holds Try.pinned (OpenSpec.ofChange interpolateMotionsWrong)

/- THE SECOND FORM. 'bulk': how many values and letters a reading holds, each counted each time it is reached (what is shared counts as often as it is met; a slice's spare places count too). A statement '..UptoSaid' is the law's where the arguments, and the package variables that the reading takes, are together of bulk at most 1048576: NARROWER than '..Said'. Prove '..Said' where nothing that the law and all that it calls make is longer than what came in: it says more and counts as full. Else prove '..UptoSaid'. A law counts once. -/
mutual
def uptoBulk {H : Type} : DataW H → Nat
  | .lit (.string bytes) => bytes.length + 1
  | .lit _ => 1
  | .nil => 1
  | .ptr d => uptoBulk d + 1
  | .slice elems spare => uptoBulkAll elems + uptoBulkAll spare + 1
  | .agg parts => uptoBulkAll parts + 1
  | .iface _ d => uptoBulk d + 1
  | .map entries => uptoBulkEntries entries + 1
  | .held _ => 1
def uptoBulkAll {H : Type} : List (DataW H) → Nat
  | [] => 0
  | d :: r => uptoBulk d + uptoBulkAll r
def uptoBulkEntries {H : Type} : List (Lit × DataW H) → Nat
  | [] => 0
  | x :: r => uptoBulkEntry x + uptoBulkEntries r
def uptoBulkEntry {H : Type} : Lit × DataW H → Nat
  | (.string bytes, d) => bytes.length + uptoBulk d + 1
  | (_, d) => uptoBulk d + 1
 end
def uptoSmall : (H : Type) → List (DataW H) → Bool := fun _ ds => decide (uptoBulkAll ds ≤ 1048576)
def OpenSpec.upto (s : _root_.Go.ChangeSpec) : _root_.Go.OpenSpec := { _root_.Go.OpenSpec.ofChange s with cond := some uptoSmall }

/-- 'swarflaw33.InterpolateValid', WHERE WHAT IT READS IS OF BULK AT MOST 1048576: true; the input reads as it did. -/
def interpolateValidUptoRow : OpenClaim := { program := "ytjdjcjhdaedakaa", sum := "d371beb34003309f466f3d7a1bb6972c095febd26ac20584921c200e695d7c83", func := "swarf/swarflaw33.InterpolateValid", spec := "interpolateValid", apart := false, narrowed := true }
def InterpolateValidUptoSaid : Prop := interpolateValidUptoRow.holds Try.pinned (OpenSpec.upto interpolateValidSpec)

/-- 'swarflaw33.InterpolateChords', WHERE WHAT IT READS IS OF BULK AT MOST 1048576: true; the input reads as it did. -/
def interpolateChordsUptoRow : OpenClaim := { program := "ytjdjcjhdaedakaa", sum := "d371beb34003309f466f3d7a1bb6972c095febd26ac20584921c200e695d7c83", func := "swarf/swarflaw33.InterpolateChords", spec := "interpolateChords", apart := false, narrowed := true }
def InterpolateChordsUptoSaid : Prop := interpolateChordsUptoRow.holds Try.pinned (OpenSpec.upto interpolateChordsSpec)

/-- 'swarflaw33.InterpolateArc', WHERE WHAT IT READS IS OF BULK AT MOST 1048576: true; the input reads as it did. -/
def interpolateArcUptoRow : OpenClaim := { program := "ytjdjcjhdaedakaa", sum := "d371beb34003309f466f3d7a1bb6972c095febd26ac20584921c200e695d7c83", func := "swarf/swarflaw33.InterpolateArc", spec := "interpolateArc", apart := false, narrowed := true }
def InterpolateArcUptoSaid : Prop := interpolateArcUptoRow.holds Try.pinned (OpenSpec.upto interpolateArcSpec)

/-- 'swarflaw33.InterpolateInside', WHERE WHAT IT READS IS OF BULK AT MOST 1048576: true; the input reads as it did. -/
def interpolateInsideUptoRow : OpenClaim := { program := "ytjdjcjhdaedakaa", sum := "d371beb34003309f466f3d7a1bb6972c095febd26ac20584921c200e695d7c83", func := "swarf/swarflaw33.InterpolateInside", spec := "interpolateInside", apart := false, narrowed := true }
def InterpolateInsideUptoSaid : Prop := interpolateInsideUptoRow.holds Try.pinned (OpenSpec.upto interpolateInsideSpec)

/-- 'swarflaw33.InterpolateNear', WHERE WHAT IT READS IS OF BULK AT MOST 1048576: true; the input reads as it did. -/
def interpolateNearUptoRow : OpenClaim := { program := "ytjdjcjhdaedakaa", sum := "d371beb34003309f466f3d7a1bb6972c095febd26ac20584921c200e695d7c83", func := "swarf/swarflaw33.InterpolateNear", spec := "interpolateNear", apart := false, narrowed := true }
def InterpolateNearUptoSaid : Prop := interpolateNearUptoRow.holds Try.pinned (OpenSpec.upto interpolateNearSpec)

/-- 'swarflaw33.InterpolateMirrored', WHERE WHAT IT READS IS OF BULK AT MOST 1048576: true; the input reads as it did. -/
def interpolateMirroredUptoRow : OpenClaim := { program := "ytjdjcjhdaedakaa", sum := "d371beb34003309f466f3d7a1bb6972c095febd26ac20584921c200e695d7c83", func := "swarf/swarflaw33.InterpolateMirrored", spec := "interpolateMirrored", apart := false, narrowed := true }
def InterpolateMirroredUptoSaid : Prop := interpolateMirroredUptoRow.holds Try.pinned (OpenSpec.upto interpolateMirroredSpec)

/-- 'swarflaw33.InterpolatePositions', WHERE WHAT IT READS IS OF BULK AT MOST 1048576: true; the input reads as it did. -/
def interpolatePositionsUptoRow : OpenClaim := { program := "ytjdjcjhdaedakaa", sum := "d371beb34003309f466f3d7a1bb6972c095febd26ac20584921c200e695d7c83", func := "swarf/swarflaw33.InterpolatePositions", spec := "interpolatePositions", unfollowed := true, recurses := true, apart := false, narrowed := true }
def InterpolatePositionsUptoSaid : Prop := interpolatePositionsUptoRow.holds Try.pinned (OpenSpec.upto interpolatePositionsSpec)

/-- 'swarflaw33.InterpolateMotions', WHERE WHAT IT READS IS OF BULK AT MOST 1048576: true; the input reads as it did. -/
def interpolateMotionsUptoRow : OpenClaim := { program := "ytjdjcjhdaedakaa", sum := "d371beb34003309f466f3d7a1bb6972c095febd26ac20584921c200e695d7c83", func := "swarf/swarflaw33.InterpolateMotions", spec := "interpolateMotions", unfollowed := true, recurses := true, apart := false, narrowed := true }
def InterpolateMotionsUptoSaid : Prop := interpolateMotionsUptoRow.holds Try.pinned (OpenSpec.upto interpolateMotionsSpec)

end Rows
end Go.Proofs.Ytjdjcjhdaedakaa
