/-
  NARROWER THAN 'FOR EVERY INPUT', by the rows' own cells (each row's printed sentence says how): InterpreterStep: laid · InterpreterBlocks: laid.
  DERIVED. THE GIVEN ROWS OF THIS SEAT. 2 by the template 'for every input the law returns true; each argument reads behind the call as it read before'; 0 by the template 'total and deterministic' (their statements: YtopjpenbieojmaaGreatDoorTotals.lean).
  GIVEN WITH THE SEED: the statements are not yours to turn. If you find one false, say at which input.
  Laid BY PROGRAM, IN A SANDBOX (cutbox-rows.mjs): the forced cells as the released guide's own fill.sh prints them over the translation 2cb6fdfe667d7e76… (all of the seat's roots in one cut). By AI agents, Wed Nov 11 2026. No macro, syntax, notation, axiom, sorry.
-/
import Derived.Test.YtopjpenbieojmaaGreatDoorChecked
import GoSem.Claim
import GoSem.ClaimJoined
import GoSem.ClaimMapViews
import Derived.JoinedTies
import Derived.KernelRfl
namespace Go.Proofs.YtopjpenbieojmaaGreatDoor
/- THE CELL 'sum', in the pinned program and in every row, IS THE sha256 OF THE DUMP (.gsa) THAT YtopjpenbieojmaaGreatDoorProg.lean LOADS. Nothing in Lean hashes anything: it is a label: what it is worth is what the hold of that sum in a sandbox is worth. -/
noncomputable def Tryz.pinned : Pinned := { name := "ytopjpenbieojmaagreatdoor", sum := "2cb6fdfe667d7e76bbb4d719d3793b939474d2ea90fe2094d854167473c50ddb", checked := Tryz.checked }
namespace Rows
def none {H : Type} : Left H := { results := [], args := [] }

/- WHAT THE LISTED PACKAGE-LEVEL VARIABLES READ AS WHEN THE CALL BEGINS. Each datum BY PROGRAM (the guide's laid-datum.mjs) off the statement by which the dump's own 'gosem.cut.vars' lays the variable. In a bare row this is a premise. The card (YtopjpenbieojmaaGreatDoorCards.lean) ties it to the program's text. -/
def laid_swarf_interpreter_machineCodes {H : Type} : DataW H := .slice [.lit (.int .i64 0), .lit (.int .i64 1000), .lit (.int .i64 3000), .lit (.int .i64 4000), .lit (.int .i64 5000), .lit (.int .i64 6000), .lit (.int .i64 8000), .lit (.int .i64 9000), .lit (.int .i64 30000)] []

/-- 'swarflaw47.InterpreterStep': WHATEVER THE INPUT: true; the input reads as it did. -/
def interpreterStepSpec : ChangeSpec := { name := "interpreterStep", fn := fun _ => fun
  | [d1, d2, d3] => { results := [.lit (.bool true)], args := [d1, d2, d3] }
  | _ => none }
def interpreterStepRow : OpenClaim := { program := "ytopjpenbieojmaagreatdoor", sum := "2cb6fdfe667d7e76bbb4d719d3793b939474d2ea90fe2094d854167473c50ddb", func := "swarf/swarflaw47.InterpreterStep", spec := "interpreterStep", unfollowed := true, recurses := true, named := ["swarf/interpreter.machineCodes"], apart := false, laid := [("swarf/interpreter.machineCodes", laid_swarf_interpreter_machineCodes)] }
def InterpreterStepSaid : Prop := interpreterStepRow.holds Tryz.pinned (OpenSpec.ofChange interpreterStepSpec)

/-- ITS FALSE NEIGHBOUR: 'it returns false'. Refute it at one input. -/
def interpreterStepWrong : ChangeSpec := { name := "interpreterStep", fn := fun _ => fun
  | [d1, d2, d3] => { results := [.lit (.bool false)], args := [d1, d2, d3] }
  | _ => none }
def InterpreterStepWrongFalsely : Prop := interpreterStepRow.holds Tryz.pinned (OpenSpec.ofChange interpreterStepWrong)

/-- 'swarflaw47.InterpreterBlocks': WHATEVER THE INPUT: true; the input reads as it did. -/
def interpreterBlocksSpec : ChangeSpec := { name := "interpreterBlocks", fn := fun _ => fun
  | [d1, d2] => { results := [.lit (.bool true)], args := [d1, d2] }
  | _ => none }
def interpreterBlocksRow : OpenClaim := { program := "ytopjpenbieojmaagreatdoor", sum := "2cb6fdfe667d7e76bbb4d719d3793b939474d2ea90fe2094d854167473c50ddb", func := "swarf/swarflaw47.InterpreterBlocks", spec := "interpreterBlocks", unfollowed := true, recurses := true, named := ["swarf/interpreter.machineCodes"], apart := false, laid := [("swarf/interpreter.machineCodes", laid_swarf_interpreter_machineCodes)] }
def InterpreterBlocksSaid : Prop := interpreterBlocksRow.holds Tryz.pinned (OpenSpec.ofChange interpreterBlocksSpec)

/-- ITS FALSE NEIGHBOUR: 'it returns false'. Refute it at one input. -/
def interpreterBlocksWrong : ChangeSpec := { name := "interpreterBlocks", fn := fun _ => fun
  | [d1, d2] => { results := [.lit (.bool false)], args := [d1, d2] }
  | _ => none }
def InterpreterBlocksWrongFalsely : Prop := interpreterBlocksRow.holds Tryz.pinned (OpenSpec.ofChange interpreterBlocksWrong)

/- THE SECOND FORM. 'bulk': how many values and letters a reading holds, each counted each time it is reached (what is shared counts as often as it is met; a slice's spare places count too). A statement '..UptoSaid' is the law's where the arguments, and the package variables that the reading takes, are together of bulk at most 1048576: NARROWER than '..Said'. Prove '..Said' where nothing that the law and all that it calls make is longer than what came in: it says more and counts as full. Else prove '..UptoSaid'. A law counts once. -/
mutual
def uptoBulk {H : Type} : DataW H → Nat
  | .lit (.string bytes) => bytes.length + 1
  | .lit _ => 1
  | .nil => 1
  | .ptr d => uptoBulk d + 1
  | .slice elems spare => uptoBulkAll elems + uptoBulkAll spare + 1
  | .agg parts => uptoBulkAll parts + 1
  | .iface _ d => uptoBulk d + 1
  | .map entries => uptoBulkEntries entries + 1
  | .held _ => 1
def uptoBulkAll {H : Type} : List (DataW H) → Nat
  | [] => 0
  | d :: r => uptoBulk d + uptoBulkAll r
def uptoBulkEntries {H : Type} : List (Lit × DataW H) → Nat
  | [] => 0
  | x :: r => uptoBulkEntry x + uptoBulkEntries r
def uptoBulkEntry {H : Type} : Lit × DataW H → Nat
  | (.string bytes, d) => bytes.length + uptoBulk d + 1
  | (_, d) => uptoBulk d + 1
 end
def uptoSmall : (H : Type) → List (DataW H) → Bool := fun _ ds => decide (uptoBulkAll ds ≤ 1048576)
def OpenSpec.upto (s : _root_.Go.ChangeSpec) : _root_.Go.OpenSpec := { _root_.Go.OpenSpec.ofChange s with cond := some uptoSmall }

/-- 'swarflaw47.InterpreterStep', WHERE WHAT IT READS IS OF BULK AT MOST 1048576: true; the input reads as it did. -/
def interpreterStepUptoRow : OpenClaim := { program := "ytopjpenbieojmaagreatdoor", sum := "2cb6fdfe667d7e76bbb4d719d3793b939474d2ea90fe2094d854167473c50ddb", func := "swarf/swarflaw47.InterpreterStep", spec := "interpreterStep", unfollowed := true, recurses := true, named := ["swarf/interpreter.machineCodes"], apart := false, laid := [("swarf/interpreter.machineCodes", laid_swarf_interpreter_machineCodes)], narrowed := true }
def InterpreterStepUptoSaid : Prop := interpreterStepUptoRow.holds Tryz.pinned (OpenSpec.upto interpreterStepSpec)

/-- 'swarflaw47.InterpreterBlocks', WHERE WHAT IT READS IS OF BULK AT MOST 1048576: true; the input reads as it did. -/
def interpreterBlocksUptoRow : OpenClaim := { program := "ytopjpenbieojmaagreatdoor", sum := "2cb6fdfe667d7e76bbb4d719d3793b939474d2ea90fe2094d854167473c50ddb", func := "swarf/swarflaw47.InterpreterBlocks", spec := "interpreterBlocks", unfollowed := true, recurses := true, named := ["swarf/interpreter.machineCodes"], apart := false, laid := [("swarf/interpreter.machineCodes", laid_swarf_interpreter_machineCodes)], narrowed := true }
def InterpreterBlocksUptoSaid : Prop := interpreterBlocksUptoRow.holds Tryz.pinned (OpenSpec.upto interpreterBlocksSpec)

end Rows
end Go.Proofs.YtopjpenbieojmaaGreatDoor
