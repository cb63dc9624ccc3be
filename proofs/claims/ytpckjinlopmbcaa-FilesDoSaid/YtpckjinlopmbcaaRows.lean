/-
  No cell of these rows narrows 'for every input' (looked for: loops, veiled, ifaces, maps, wideKeys, modest, calm, conditions, laid).
  DERIVED. THE GIVEN ROWS OF THIS SEAT. 6 by the template 'for every input the law returns true; each argument reads behind the call as it read before'; 0 by the template 'total and deterministic' (their statements: YtpckjinlopmbcaaTotals.lean).
  GIVEN WITH THE SEED: the statements are not yours to turn. If you find one false, say at which input.
  Laid BY PROGRAM, IN A SANDBOX (cutbox-rows.mjs): the forced cells as the released guide's own fill.sh prints them over the translation be46a80c602d8718… (all of the seat's roots in one cut). By AI agents, Wed Nov 11 2026. No macro, syntax, notation, axiom, sorry.
-/
import Derived.Test.YtpckjinlopmbcaaChecked
import GoSem.Claim
import GoSem.ClaimJoined
import GoSem.ClaimMapViews
import Derived.JoinedTies
import Derived.KernelRfl
namespace Go.Proofs.Ytpckjinlopmbcaa
/- THE CELL 'sum', in the pinned program and in every row, IS THE sha256 OF THE DUMP (.gsa) THAT YtpckjinlopmbcaaProg.lean LOADS. Nothing in Lean hashes anything: it is a label: what it is worth is what the hold of that sum in a sandbox is worth. -/
noncomputable def Try.pinned : Pinned := { name := "ytpckjinlopmbcaa", sum := "be46a80c602d8718120664ffaebceb765b09dec5e67b9950cb0b70656203c47c", checked := Try.checked }
namespace Rows
def none {H : Type} : Left H := { results := [], args := [] }

/-- 'ferrymanlaw11.FilesKeep': WHATEVER THE INPUT: true; the input reads as it did. -/
def filesKeepSpec : ChangeSpec := { name := "filesKeep", fn := fun _ => fun
  | [d1, d2, d3, d4, d5] => { results := [.lit (.bool true)], args := [d1, d2, d3, d4, d5] }
  | _ => none }
def filesKeepRow : OpenClaim := { program := "ytpckjinlopmbcaa", sum := "be46a80c602d8718120664ffaebceb765b09dec5e67b9950cb0b70656203c47c", func := "ferryman/ferrymanlaw11.FilesKeep", spec := "filesKeep", inPlace := ["maps.clone"], unfollowed := true, recurses := true, apart := false }
def FilesKeepSaid : Prop := filesKeepRow.holds Try.pinned (OpenSpec.ofChange filesKeepSpec)

/-- ITS FALSE NEIGHBOUR: 'it returns false'. Refute it at one input. -/
def filesKeepWrong : ChangeSpec := { name := "filesKeep", fn := fun _ => fun
  | [d1, d2, d3, d4, d5] => { results := [.lit (.bool false)], args := [d1, d2, d3, d4, d5] }
  | _ => none }
def FilesKeepWrongFalsely : Prop := filesKeepRow.holds Try.pinned (OpenSpec.ofChange filesKeepWrong)

/-- 'ferrymanlaw11.FilesRoom': WHATEVER THE INPUT: true; the input reads as it did. -/
def filesRoomSpec : ChangeSpec := { name := "filesRoom", fn := fun _ => fun
  | [d1, d2] => { results := [.lit (.bool true)], args := [d1, d2] }
  | _ => none }
def filesRoomRow : OpenClaim := { program := "ytpckjinlopmbcaa", sum := "be46a80c602d8718120664ffaebceb765b09dec5e67b9950cb0b70656203c47c", func := "ferryman/ferrymanlaw11.FilesRoom", spec := "filesRoom", inPlace := ["maps.clone"], unfollowed := true, recurses := true, apart := false }
def FilesRoomSaid : Prop := filesRoomRow.holds Try.pinned (OpenSpec.ofChange filesRoomSpec)

/-- ITS FALSE NEIGHBOUR: 'it returns false'. Refute it at one input. -/
def filesRoomWrong : ChangeSpec := { name := "filesRoom", fn := fun _ => fun
  | [d1, d2] => { results := [.lit (.bool false)], args := [d1, d2] }
  | _ => none }
def FilesRoomWrongFalsely : Prop := filesRoomRow.holds Try.pinned (OpenSpec.ofChange filesRoomWrong)

/-- 'ferrymanlaw11.FilesNames': WHATEVER THE INPUT: true; the input reads as it did. -/
def filesNamesSpec : ChangeSpec := { name := "filesNames", fn := fun _ => fun
  | [d1, d2, d3] => { results := [.lit (.bool true)], args := [d1, d2, d3] }
  | _ => none }
def filesNamesRow : OpenClaim := { program := "ytpckjinlopmbcaa", sum := "be46a80c602d8718120664ffaebceb765b09dec5e67b9950cb0b70656203c47c", func := "ferryman/ferrymanlaw11.FilesNames", spec := "filesNames", inPlace := ["maps.clone"], unfollowed := true, recurses := true, apart := false }
def FilesNamesSaid : Prop := filesNamesRow.holds Try.pinned (OpenSpec.ofChange filesNamesSpec)

/-- ITS FALSE NEIGHBOUR: 'it returns false'. Refute it at one input. -/
def filesNamesWrong : ChangeSpec := { name := "filesNames", fn := fun _ => fun
  | [d1, d2, d3] => { results := [.lit (.bool false)], args := [d1, d2, d3] }
  | _ => none }
def FilesNamesWrongFalsely : Prop := filesNamesRow.holds Try.pinned (OpenSpec.ofChange filesNamesWrong)

/-- 'ferrymanlaw11.FilesSwap': WHATEVER THE INPUT: true; the input reads as it did. -/
def filesSwapSpec : ChangeSpec := { name := "filesSwap", fn := fun _ => fun
  | [d1, d2, d3, d4, d5] => { results := [.lit (.bool true)], args := [d1, d2, d3, d4, d5] }
  | _ => none }
def filesSwapRow : OpenClaim := { program := "ytpckjinlopmbcaa", sum := "be46a80c602d8718120664ffaebceb765b09dec5e67b9950cb0b70656203c47c", func := "ferryman/ferrymanlaw11.FilesSwap", spec := "filesSwap", inPlace := ["maps.clone"], unfollowed := true, recurses := true, apart := false }
def FilesSwapSaid : Prop := filesSwapRow.holds Try.pinned (OpenSpec.ofChange filesSwapSpec)

/-- ITS FALSE NEIGHBOUR: 'it returns false'. Refute it at one input. -/
def filesSwapWrong : ChangeSpec := { name := "filesSwap", fn := fun _ => fun
  | [d1, d2, d3, d4, d5] => { results := [.lit (.bool false)], args := [d1, d2, d3, d4, d5] }
  | _ => none }
def FilesSwapWrongFalsely : Prop := filesSwapRow.holds Try.pinned (OpenSpec.ofChange filesSwapWrong)

/-- 'ferrymanlaw11.FilesDo': WHATEVER THE INPUT: true; the input reads as it did. -/
def filesDoSpec : ChangeSpec := { name := "filesDo", fn := fun _ => fun
  | [d1, d2] => { results := [.lit (.bool true)], args := [d1, d2] }
  | _ => none }
def filesDoRow : OpenClaim := { program := "ytpckjinlopmbcaa", sum := "be46a80c602d8718120664ffaebceb765b09dec5e67b9950cb0b70656203c47c", func := "ferryman/ferrymanlaw11.FilesDo", spec := "filesDo", inPlace := ["maps.clone"], unfollowed := true, recurses := true, apart := false }
def FilesDoSaid : Prop := filesDoRow.holds Try.pinned (OpenSpec.ofChange filesDoSpec)

/-- ITS FALSE NEIGHBOUR: 'it returns false'. Refute it at one input. -/
def filesDoWrong : ChangeSpec := { name := "filesDo", fn := fun _ => fun
  | [d1, d2] => { results := [.lit (.bool false)], args := [d1, d2] }
  | _ => none }
def FilesDoWrongFalsely : Prop := filesDoRow.holds Try.pinned (OpenSpec.ofChange filesDoWrong)

/-- 'ferrymanlaw11.FilesDark': WHATEVER THE INPUT: true; the input reads as it did. -/
def filesDarkSpec : ChangeSpec := { name := "filesDark", fn := fun _ => fun
  | [d1, d2, d3] => { results := [.lit (.bool true)], args := [d1, d2, d3] }
  | _ => none }
def filesDarkRow : OpenClaim := { program := "ytpckjinlopmbcaa", sum := "be46a80c602d8718120664ffaebceb765b09dec5e67b9950cb0b70656203c47c", func := "ferryman/ferrymanlaw11.FilesDark", spec := "filesDark", inPlace := ["maps.clone"], unfollowed := true, recurses := true, apart := false }
def FilesDarkSaid : Prop := filesDarkRow.holds Try.pinned (OpenSpec.ofChange filesDarkSpec)

/-- ITS FALSE NEIGHBOUR: 'it returns false'. Refute it at one input. -/
def filesDarkWrong : ChangeSpec := { name := "filesDark", fn := fun _ => fun
  | [d1, d2, d3] => { results := [.lit (.bool false)], args := [d1, d2, d3] }
  | _ => none }
def FilesDarkWrongFalsely : Prop := filesDarkRow.holds Try.pinned (OpenSpec.ofChange filesDarkWrong)

/- THE SECOND FORM. 'bulk': how many values and letters a reading holds, each counted each time it is reached (what is shared counts as often as it is met; a slice's spare places count too). A statement '..UptoSaid' is the law's where the arguments, and the package variables that the reading takes, are together of bulk at most 1048576: NARROWER than '..Said'. Prove '..Said' where nothing that the law and all that it calls make is longer than what came in: it says more and counts as full. Else prove '..UptoSaid'. A law counts once. -/
mutual
def uptoBulk {H : Type} : DataW H → Nat
  | .lit (.string bytes) => bytes.length + 1
  | .lit _ => 1
  | .nil => 1
  | .ptr d => uptoBulk d + 1
  | .slice elems spare => uptoBulkAll elems + uptoBulkAll spare + 1
  | .agg parts => uptoBulkAll parts + 1
  | .iface _ d => uptoBulk d + 1
  | .map entries => uptoBulkEntries entries + 1
  | .held _ => 1
def uptoBulkAll {H : Type} : List (DataW H) → Nat
  | [] => 0
  | d :: r => uptoBulk d + uptoBulkAll r
def uptoBulkEntries {H : Type} : List (Lit × DataW H) → Nat
  | [] => 0
  | x :: r => uptoBulkEntry x + uptoBulkEntries r
def uptoBulkEntry {H : Type} : Lit × DataW H → Nat
  | (.string bytes, d) => bytes.length + uptoBulk d + 1
  | (_, d) => uptoBulk d + 1
 end
def uptoSmall : (H : Type) → List (DataW H) → Bool := fun _ ds => decide (uptoBulkAll ds ≤ 1048576)
def OpenSpec.upto (s : _root_.Go.ChangeSpec) : _root_.Go.OpenSpec := { _root_.Go.OpenSpec.ofChange s with cond := some uptoSmall }

/-- 'ferrymanlaw11.FilesKeep', WHERE WHAT IT READS IS OF BULK AT MOST 1048576: true; the input reads as it did. -/
def filesKeepUptoRow : OpenClaim := { program := "ytpckjinlopmbcaa", sum := "be46a80c602d8718120664ffaebceb765b09dec5e67b9950cb0b70656203c47c", func := "ferryman/ferrymanlaw11.FilesKeep", spec := "filesKeep", inPlace := ["maps.clone"], unfollowed := true, recurses := true, apart := false, narrowed := true }
def FilesKeepUptoSaid : Prop := filesKeepUptoRow.holds Try.pinned (OpenSpec.upto filesKeepSpec)

/-- 'ferrymanlaw11.FilesRoom', WHERE WHAT IT READS IS OF BULK AT MOST 1048576: true; the input reads as it did. -/
def filesRoomUptoRow : OpenClaim := { program := "ytpckjinlopmbcaa", sum := "be46a80c602d8718120664ffaebceb765b09dec5e67b9950cb0b70656203c47c", func := "ferryman/ferrymanlaw11.FilesRoom", spec := "filesRoom", inPlace := ["maps.clone"], unfollowed := true, recurses := true, apart := false, narrowed := true }
def FilesRoomUptoSaid : Prop := filesRoomUptoRow.holds Try.pinned (OpenSpec.upto filesRoomSpec)

/-- 'ferrymanlaw11.FilesNames', WHERE WHAT IT READS IS OF BULK AT MOST 1048576: true; the input reads as it did. -/
def filesNamesUptoRow : OpenClaim := { program := "ytpckjinlopmbcaa", sum := "be46a80c602d8718120664ffaebceb765b09dec5e67b9950cb0b70656203c47c", func := "ferryman/ferrymanlaw11.FilesNames", spec := "filesNames", inPlace := ["maps.clone"], unfollowed := true, recurses := true, apart := false, narrowed := true }
def FilesNamesUptoSaid : Prop := filesNamesUptoRow.holds Try.pinned (OpenSpec.upto filesNamesSpec)

/-- 'ferrymanlaw11.FilesSwap', WHERE WHAT IT READS IS OF BULK AT MOST 1048576: true; the input reads as it did. -/
def filesSwapUptoRow : OpenClaim := { program := "ytpckjinlopmbcaa", sum := "be46a80c602d8718120664ffaebceb765b09dec5e67b9950cb0b70656203c47c", func := "ferryman/ferrymanlaw11.FilesSwap", spec := "filesSwap", inPlace := ["maps.clone"], unfollowed := true, recurses := true, apart := false, narrowed := true }
def FilesSwapUptoSaid : Prop := filesSwapUptoRow.holds Try.pinned (OpenSpec.upto filesSwapSpec)

/-- 'ferrymanlaw11.FilesDo', WHERE WHAT IT READS IS OF BULK AT MOST 1048576: true; the input reads as it did. -/
def filesDoUptoRow : OpenClaim := { program := "ytpckjinlopmbcaa", sum := "be46a80c602d8718120664ffaebceb765b09dec5e67b9950cb0b70656203c47c", func := "ferryman/ferrymanlaw11.FilesDo", spec := "filesDo", inPlace := ["maps.clone"], unfollowed := true, recurses := true, apart := false, narrowed := true }
def FilesDoUptoSaid : Prop := filesDoUptoRow.holds Try.pinned (OpenSpec.upto filesDoSpec)

/-- 'ferrymanlaw11.FilesDark', WHERE WHAT IT READS IS OF BULK AT MOST 1048576: true; the input reads as it did. -/
def filesDarkUptoRow : OpenClaim := { program := "ytpckjinlopmbcaa", sum := "be46a80c602d8718120664ffaebceb765b09dec5e67b9950cb0b70656203c47c", func := "ferryman/ferrymanlaw11.FilesDark", spec := "filesDark", inPlace := ["maps.clone"], unfollowed := true, recurses := true, apart := false, narrowed := true }
def FilesDarkUptoSaid : Prop := filesDarkUptoRow.holds Try.pinned (OpenSpec.upto filesDarkSpec)

end Rows
end Go.Proofs.Ytpckjinlopmbcaa
