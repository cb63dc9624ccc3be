/-
  No cell of these rows narrows 'for every input' (looked for: loops, veiled, ifaces, maps, wideKeys, modest, calm, conditions, laid).
  DERIVED. THE GIVEN ROWS OF THIS SEAT. 8 by the template 'for every input the law returns true; each argument reads behind the call as it read before'; 0 by the template 'total and deterministic' (their statements: YtaoagaokocnehaaTotals.lean).
  GIVEN WITH THE SEED: the statements are not yours to turn. If you find one false, say at which input.
  Laid BY PROGRAM, IN A SANDBOX (cutbox-rows.mjs): the forced cells as the released guide's own fill.sh prints them over the translation f10ae2159cf6a3d7… (all of the seat's roots in one cut). By AI agents, Wed Nov 11 2026. No macro, syntax, notation, axiom, sorry.
-/
import Derived.Test.YtaoagaokocnehaaChecked
import GoSem.Claim
import GoSem.ClaimJoined
import GoSem.ClaimMapViews
import Derived.JoinedTies
import Derived.KernelRfl
namespace Go.Proofs.Ytaoagaokocnehaa
/- THE CELL 'sum', in the pinned program and in every row, IS THE sha256 OF THE DUMP (.gsa) THAT YtaoagaokocnehaaProg.lean LOADS. Nothing in Lean hashes anything: it is a label: what it is worth is what the hold of that sum in a sandbox is worth. -/
noncomputable def Try.pinned : Pinned := { name := "ytaoagaokocnehaa", sum := "f10ae2159cf6a3d7b1bea73b8eb7bc9343bc6b3e8eae102d339460ca5abd38af", checked := Try.checked }
namespace Rows
def none {H : Type} : Left H := { results := [], args := [] }

/-- 'ferrymanlaw04.ObjsSteps': WHATEVER THE INPUT: true; the input reads as it did. -/
def objsStepsSpec : ChangeSpec := { name := "objsSteps", fn := fun _ => fun
  | [d1, d2] => { results := [.lit (.bool true)], args := [d1, d2] }
  | _ => none }
def objsStepsRow : OpenClaim := { program := "ytaoagaokocnehaa", sum := "f10ae2159cf6a3d7b1bea73b8eb7bc9343bc6b3e8eae102d339460ca5abd38af", func := "ferryman/ferrymanlaw04.ObjsSteps", spec := "objsSteps", inPlace := ["slices.overlaps[int]"], unfollowed := true, recurses := true, apart := false }
def ObjsStepsSaid : Prop := objsStepsRow.holds Try.pinned (OpenSpec.ofChange objsStepsSpec)

/-- ITS FALSE NEIGHBOUR: 'it returns false'. Refute it at one input. -/
def objsStepsWrong : ChangeSpec := { name := "objsSteps", fn := fun _ => fun
  | [d1, d2] => { results := [.lit (.bool false)], args := [d1, d2] }
  | _ => none }
def ObjsStepsWrongFalsely : Prop := objsStepsRow.holds Try.pinned (OpenSpec.ofChange objsStepsWrong)

/-- 'ferrymanlaw04.ObjsOrder': WHATEVER THE INPUT: true; the input reads as it did. -/
def objsOrderSpec : ChangeSpec := { name := "objsOrder", fn := fun _ => fun
  | [d] => { results := [.lit (.bool true)], args := [d] }
  | _ => none }
def objsOrderRow : OpenClaim := { program := "ytaoagaokocnehaa", sum := "f10ae2159cf6a3d7b1bea73b8eb7bc9343bc6b3e8eae102d339460ca5abd38af", func := "ferryman/ferrymanlaw04.ObjsOrder", spec := "objsOrder", inPlace := ["slices.overlaps[int]"], unfollowed := true, recurses := true, apart := false }
def ObjsOrderSaid : Prop := objsOrderRow.holds Try.pinned (OpenSpec.ofChange objsOrderSpec)

/-- ITS FALSE NEIGHBOUR: 'it returns false'. Refute it at one input. -/
def objsOrderWrong : ChangeSpec := { name := "objsOrder", fn := fun _ => fun
  | [d] => { results := [.lit (.bool false)], args := [d] }
  | _ => none }
def ObjsOrderWrongFalsely : Prop := objsOrderRow.holds Try.pinned (OpenSpec.ofChange objsOrderWrong)

/-- 'ferrymanlaw04.ObjsSums': WHATEVER THE INPUT: true; the input reads as it did. -/
def objsSumsSpec : ChangeSpec := { name := "objsSums", fn := fun _ => fun
  | [d] => { results := [.lit (.bool true)], args := [d] }
  | _ => none }
def objsSumsRow : OpenClaim := { program := "ytaoagaokocnehaa", sum := "f10ae2159cf6a3d7b1bea73b8eb7bc9343bc6b3e8eae102d339460ca5abd38af", func := "ferryman/ferrymanlaw04.ObjsSums", spec := "objsSums", inPlace := ["slices.overlaps[int]"], unfollowed := true, recurses := true, apart := false }
def ObjsSumsSaid : Prop := objsSumsRow.holds Try.pinned (OpenSpec.ofChange objsSumsSpec)

/-- ITS FALSE NEIGHBOUR: 'it returns false'. Refute it at one input. -/
def objsSumsWrong : ChangeSpec := { name := "objsSums", fn := fun _ => fun
  | [d] => { results := [.lit (.bool false)], args := [d] }
  | _ => none }
def ObjsSumsWrongFalsely : Prop := objsSumsRow.holds Try.pinned (OpenSpec.ofChange objsSumsWrong)

/-- 'ferrymanlaw04.ObjsFolds': WHATEVER THE INPUT: true; the input reads as it did. -/
def objsFoldsSpec : ChangeSpec := { name := "objsFolds", fn := fun _ => fun
  | [d1, d2] => { results := [.lit (.bool true)], args := [d1, d2] }
  | _ => none }
def objsFoldsRow : OpenClaim := { program := "ytaoagaokocnehaa", sum := "f10ae2159cf6a3d7b1bea73b8eb7bc9343bc6b3e8eae102d339460ca5abd38af", func := "ferryman/ferrymanlaw04.ObjsFolds", spec := "objsFolds", inPlace := ["slices.overlaps[int]"], unfollowed := true, recurses := true, apart := false }
def ObjsFoldsSaid : Prop := objsFoldsRow.holds Try.pinned (OpenSpec.ofChange objsFoldsSpec)

/-- ITS FALSE NEIGHBOUR: 'it returns false'. Refute it at one input. -/
def objsFoldsWrong : ChangeSpec := { name := "objsFolds", fn := fun _ => fun
  | [d1, d2] => { results := [.lit (.bool false)], args := [d1, d2] }
  | _ => none }
def ObjsFoldsWrongFalsely : Prop := objsFoldsRow.holds Try.pinned (OpenSpec.ofChange objsFoldsWrong)

/-- 'ferrymanlaw04.ObjsStays': WHATEVER THE INPUT: true; the input reads as it did. -/
def objsStaysSpec : ChangeSpec := { name := "objsStays", fn := fun _ => fun
  | [d1, d2] => { results := [.lit (.bool true)], args := [d1, d2] }
  | _ => none }
def objsStaysRow : OpenClaim := { program := "ytaoagaokocnehaa", sum := "f10ae2159cf6a3d7b1bea73b8eb7bc9343bc6b3e8eae102d339460ca5abd38af", func := "ferryman/ferrymanlaw04.ObjsStays", spec := "objsStays", inPlace := ["slices.overlaps[int]"], unfollowed := true, recurses := true, apart := false }
def ObjsStaysSaid : Prop := objsStaysRow.holds Try.pinned (OpenSpec.ofChange objsStaysSpec)

/-- ITS FALSE NEIGHBOUR: 'it returns false'. Refute it at one input. -/
def objsStaysWrong : ChangeSpec := { name := "objsStays", fn := fun _ => fun
  | [d1, d2] => { results := [.lit (.bool false)], args := [d1, d2] }
  | _ => none }
def ObjsStaysWrongFalsely : Prop := objsStaysRow.holds Try.pinned (OpenSpec.ofChange objsStaysWrong)

/-- 'ferrymanlaw04.ObjsMoves': WHATEVER THE INPUT: true; the input reads as it did. -/
def objsMovesSpec : ChangeSpec := { name := "objsMoves", fn := fun _ => fun
  | [d1, d2] => { results := [.lit (.bool true)], args := [d1, d2] }
  | _ => none }
def objsMovesRow : OpenClaim := { program := "ytaoagaokocnehaa", sum := "f10ae2159cf6a3d7b1bea73b8eb7bc9343bc6b3e8eae102d339460ca5abd38af", func := "ferryman/ferrymanlaw04.ObjsMoves", spec := "objsMoves", inPlace := ["slices.overlaps[int]"], unfollowed := true, recurses := true, apart := false }
def ObjsMovesSaid : Prop := objsMovesRow.holds Try.pinned (OpenSpec.ofChange objsMovesSpec)

/-- ITS FALSE NEIGHBOUR: 'it returns false'. Refute it at one input. -/
def objsMovesWrong : ChangeSpec := { name := "objsMoves", fn := fun _ => fun
  | [d1, d2] => { results := [.lit (.bool false)], args := [d1, d2] }
  | _ => none }
def ObjsMovesWrongFalsely : Prop := objsMovesRow.holds Try.pinned (OpenSpec.ofChange objsMovesWrong)

/-- 'ferrymanlaw04.ObjsMay': WHATEVER THE INPUT: true; the input reads as it did. -/
def objsMaySpec : ChangeSpec := { name := "objsMay", fn := fun _ => fun
  | [d1, d2, d3, d4] => { results := [.lit (.bool true)], args := [d1, d2, d3, d4] }
  | _ => none }
def objsMayRow : OpenClaim := { program := "ytaoagaokocnehaa", sum := "f10ae2159cf6a3d7b1bea73b8eb7bc9343bc6b3e8eae102d339460ca5abd38af", func := "ferryman/ferrymanlaw04.ObjsMay", spec := "objsMay", inPlace := ["slices.overlaps[int]"], unfollowed := true, recurses := true, apart := false }
def ObjsMaySaid : Prop := objsMayRow.holds Try.pinned (OpenSpec.ofChange objsMaySpec)

/-- ITS FALSE NEIGHBOUR: 'it returns false'. Refute it at one input. -/
def objsMayWrong : ChangeSpec := { name := "objsMay", fn := fun _ => fun
  | [d1, d2, d3, d4] => { results := [.lit (.bool false)], args := [d1, d2, d3, d4] }
  | _ => none }
def ObjsMayWrongFalsely : Prop := objsMayRow.holds Try.pinned (OpenSpec.ofChange objsMayWrong)

/-- 'ferrymanlaw04.ObjsSeals': WHATEVER THE INPUT: true; the input reads as it did. -/
def objsSealsSpec : ChangeSpec := { name := "objsSeals", fn := fun _ => fun
  | [d1, d2, d3] => { results := [.lit (.bool true)], args := [d1, d2, d3] }
  | _ => none }
def objsSealsRow : OpenClaim := { program := "ytaoagaokocnehaa", sum := "f10ae2159cf6a3d7b1bea73b8eb7bc9343bc6b3e8eae102d339460ca5abd38af", func := "ferryman/ferrymanlaw04.ObjsSeals", spec := "objsSeals", inPlace := ["slices.overlaps[int]"], unfollowed := true, recurses := true, apart := false }
def ObjsSealsSaid : Prop := objsSealsRow.holds Try.pinned (OpenSpec.ofChange objsSealsSpec)

/-- ITS FALSE NEIGHBOUR: 'it returns false'. Refute it at one input. -/
def objsSealsWrong : ChangeSpec := { name := "objsSeals", fn := fun _ => fun
  | [d1, d2, d3] => { results := [.lit (.bool false)], args := [d1, d2, d3] }
  | _ => none }
def ObjsSealsWrongFalsely : Prop := objsSealsRow.holds Try.pinned (OpenSpec.ofChange objsSealsWrong)

/- THE SECOND FORM. 'bulk': how many values and letters a reading holds, each counted each time it is reached (what is shared counts as often as it is met; a slice's spare places count too). A statement '..UptoSaid' is the law's where the arguments, and the package variables that the reading takes, are together of bulk at most 1048576: NARROWER than '..Said'. Prove '..Said' where nothing that the law and all that it calls make is longer than what came in: it says more and counts as full. Else prove '..UptoSaid'. A law counts once. -/
mutual
def uptoBulk {H : Type} : DataW H → Nat
  | .lit (.string bytes) => bytes.length + 1
  | .lit _ => 1
  | .nil => 1
  | .ptr d => uptoBulk d + 1
  | .slice elems spare => uptoBulkAll elems + uptoBulkAll spare + 1
  | .agg parts => uptoBulkAll parts + 1
  | .iface _ d => uptoBulk d + 1
  | .map entries => uptoBulkEntries entries + 1
  | .held _ => 1
def uptoBulkAll {H : Type} : List (DataW H) → Nat
  | [] => 0
  | d :: r => uptoBulk d + uptoBulkAll r
def uptoBulkEntries {H : Type} : List (Lit × DataW H) → Nat
  | [] => 0
  | x :: r => uptoBulkEntry x + uptoBulkEntries r
def uptoBulkEntry {H : Type} : Lit × DataW H → Nat
  | (.string bytes, d) => bytes.length + uptoBulk d + 1
  | (_, d) => uptoBulk d + 1
 end
def uptoSmall : (H : Type) → List (DataW H) → Bool := fun _ ds => decide (uptoBulkAll ds ≤ 1048576)
def OpenSpec.upto (s : _root_.Go.ChangeSpec) : _root_.Go.OpenSpec := { _root_.Go.OpenSpec.ofChange s with cond := some uptoSmall }

/-- 'ferrymanlaw04.ObjsSteps', WHERE WHAT IT READS IS OF BULK AT MOST 1048576: true; the input reads as it did. -/
def objsStepsUptoRow : OpenClaim := { program := "ytaoagaokocnehaa", sum := "f10ae2159cf6a3d7b1bea73b8eb7bc9343bc6b3e8eae102d339460ca5abd38af", func := "ferryman/ferrymanlaw04.ObjsSteps", spec := "objsSteps", inPlace := ["slices.overlaps[int]"], unfollowed := true, recurses := true, apart := false, narrowed := true }
def ObjsStepsUptoSaid : Prop := objsStepsUptoRow.holds Try.pinned (OpenSpec.upto objsStepsSpec)

/-- 'ferrymanlaw04.ObjsOrder', WHERE WHAT IT READS IS OF BULK AT MOST 1048576: true; the input reads as it did. -/
def objsOrderUptoRow : OpenClaim := { program := "ytaoagaokocnehaa", sum := "f10ae2159cf6a3d7b1bea73b8eb7bc9343bc6b3e8eae102d339460ca5abd38af", func := "ferryman/ferrymanlaw04.ObjsOrder", spec := "objsOrder", inPlace := ["slices.overlaps[int]"], unfollowed := true, recurses := true, apart := false, narrowed := true }
def ObjsOrderUptoSaid : Prop := objsOrderUptoRow.holds Try.pinned (OpenSpec.upto objsOrderSpec)

/-- 'ferrymanlaw04.ObjsSums', WHERE WHAT IT READS IS OF BULK AT MOST 1048576: true; the input reads as it did. -/
def objsSumsUptoRow : OpenClaim := { program := "ytaoagaokocnehaa", sum := "f10ae2159cf6a3d7b1bea73b8eb7bc9343bc6b3e8eae102d339460ca5abd38af", func := "ferryman/ferrymanlaw04.ObjsSums", spec := "objsSums", inPlace := ["slices.overlaps[int]"], unfollowed := true, recurses := true, apart := false, narrowed := true }
def ObjsSumsUptoSaid : Prop := objsSumsUptoRow.holds Try.pinned (OpenSpec.upto objsSumsSpec)

/-- 'ferrymanlaw04.ObjsFolds', WHERE WHAT IT READS IS OF BULK AT MOST 1048576: true; the input reads as it did. -/
def objsFoldsUptoRow : OpenClaim := { program := "ytaoagaokocnehaa", sum := "f10ae2159cf6a3d7b1bea73b8eb7bc9343bc6b3e8eae102d339460ca5abd38af", func := "ferryman/ferrymanlaw04.ObjsFolds", spec := "objsFolds", inPlace := ["slices.overlaps[int]"], unfollowed := true, recurses := true, apart := false, narrowed := true }
def ObjsFoldsUptoSaid : Prop := objsFoldsUptoRow.holds Try.pinned (OpenSpec.upto objsFoldsSpec)

/-- 'ferrymanlaw04.ObjsStays', WHERE WHAT IT READS IS OF BULK AT MOST 1048576: true; the input reads as it did. -/
def objsStaysUptoRow : OpenClaim := { program := "ytaoagaokocnehaa", sum := "f10ae2159cf6a3d7b1bea73b8eb7bc9343bc6b3e8eae102d339460ca5abd38af", func := "ferryman/ferrymanlaw04.ObjsStays", spec := "objsStays", inPlace := ["slices.overlaps[int]"], unfollowed := true, recurses := true, apart := false, narrowed := true }
def ObjsStaysUptoSaid : Prop := objsStaysUptoRow.holds Try.pinned (OpenSpec.upto objsStaysSpec)

/-- 'ferrymanlaw04.ObjsMoves', WHERE WHAT IT READS IS OF BULK AT MOST 1048576: true; the input reads as it did. -/
def objsMovesUptoRow : OpenClaim := { program := "ytaoagaokocnehaa", sum := "f10ae2159cf6a3d7b1bea73b8eb7bc9343bc6b3e8eae102d339460ca5abd38af", func := "ferryman/ferrymanlaw04.ObjsMoves", spec := "objsMoves", inPlace := ["slices.overlaps[int]"], unfollowed := true, recurses := true, apart := false, narrowed := true }
def ObjsMovesUptoSaid : Prop := objsMovesUptoRow.holds Try.pinned (OpenSpec.upto objsMovesSpec)

/-- 'ferrymanlaw04.ObjsMay', WHERE WHAT IT READS IS OF BULK AT MOST 1048576: true; the input reads as it did. -/
def objsMayUptoRow : OpenClaim := { program := "ytaoagaokocnehaa", sum := "f10ae2159cf6a3d7b1bea73b8eb7bc9343bc6b3e8eae102d339460ca5abd38af", func := "ferryman/ferrymanlaw04.ObjsMay", spec := "objsMay", inPlace := ["slices.overlaps[int]"], unfollowed := true, recurses := true, apart := false, narrowed := true }
def ObjsMayUptoSaid : Prop := objsMayUptoRow.holds Try.pinned (OpenSpec.upto objsMaySpec)

/-- 'ferrymanlaw04.ObjsSeals', WHERE WHAT IT READS IS OF BULK AT MOST 1048576: true; the input reads as it did. -/
def objsSealsUptoRow : OpenClaim := { program := "ytaoagaokocnehaa", sum := "f10ae2159cf6a3d7b1bea73b8eb7bc9343bc6b3e8eae102d339460ca5abd38af", func := "ferryman/ferrymanlaw04.ObjsSeals", spec := "objsSeals", inPlace := ["slices.overlaps[int]"], unfollowed := true, recurses := true, apart := false, narrowed := true }
def ObjsSealsUptoSaid : Prop := objsSealsUptoRow.holds Try.pinned (OpenSpec.upto objsSealsSpec)

end Rows
end Go.Proofs.Ytaoagaokocnehaa
