/-
  No cell of these rows narrows 'for every input' (looked for: loops, veiled, ifaces, maps, wideKeys, modest, calm, conditions, laid).
  DERIVED. THE GIVEN ROWS OF THIS SEAT. 6 by the template 'for every input the law returns true; each argument reads behind the call as it read before'; 0 by the template 'total and deterministic' (their statements: YtjbmfmhibmnaiaaTotals.lean).
  GIVEN WITH THE SEED: the statements are not yours to turn. If you find one false, say at which input.
  Laid BY PROGRAM, IN A SANDBOX (cutbox-rows.mjs): the forced cells as the released guide's own fill.sh prints them over the translation 75f6eee95040402e… (all of the seat's roots in one cut). By AI agents, Wed Nov 11 2026. No macro, syntax, notation, axiom, sorry.
-/
import Derived.Test.YtjbmfmhibmnaiaaChecked
import GoSem.Claim
import GoSem.ClaimJoined
import GoSem.ClaimMapViews
import Derived.JoinedTies
import Derived.KernelRfl
namespace Go.Proofs.Ytjbmfmhibmnaiaa
/- THE CELL 'sum', in the pinned program and in every row, IS THE sha256 OF THE DUMP (.gsa) THAT YtjbmfmhibmnaiaaProg.lean LOADS. Nothing in Lean hashes anything: it is a label: what it is worth is what the hold of that sum in a sandbox is worth. -/
noncomputable def Try.pinned : Pinned := { name := "ytjbmfmhibmnaiaa", sum := "75f6eee95040402e925e18e674f995c577572baa696d8d8ed86d3bffe7fd5040", checked := Try.checked }
namespace Rows
def none {H : Type} : Left H := { results := [], args := [] }

/-- 'ferrymanlaw14.MachineOnce': WHATEVER THE INPUT: true; the input reads as it did. -/
def machineOnceSpec : ChangeSpec := { name := "machineOnce", fn := fun _ => fun
  | [d] => { results := [.lit (.bool true)], args := [d] }
  | _ => none }
def machineOnceRow : OpenClaim := { program := "ytjbmfmhibmnaiaa", sum := "75f6eee95040402e925e18e674f995c577572baa696d8d8ed86d3bffe7fd5040", func := "ferryman/ferrymanlaw14.MachineOnce", spec := "machineOnce", unfollowed := true, recurses := true, apart := false }
def MachineOnceSaid : Prop := machineOnceRow.holds Try.pinned (OpenSpec.ofChange machineOnceSpec)

/-- ITS FALSE NEIGHBOUR: 'it returns false'. Refute it at one input. -/
def machineOnceWrong : ChangeSpec := { name := "machineOnce", fn := fun _ => fun
  | [d] => { results := [.lit (.bool false)], args := [d] }
  | _ => none }
def MachineOnceWrongFalsely : Prop := machineOnceRow.holds Try.pinned (OpenSpec.ofChange machineOnceWrong)

/-- 'ferrymanlaw14.MachineCounts': WHATEVER THE INPUT: true; the input reads as it did. -/
def machineCountsSpec : ChangeSpec := { name := "machineCounts", fn := fun _ => fun
  | [d1, d2] => { results := [.lit (.bool true)], args := [d1, d2] }
  | _ => none }
def machineCountsRow : OpenClaim := { program := "ytjbmfmhibmnaiaa", sum := "75f6eee95040402e925e18e674f995c577572baa696d8d8ed86d3bffe7fd5040", func := "ferryman/ferrymanlaw14.MachineCounts", spec := "machineCounts", unfollowed := true, recurses := true, apart := false }
def MachineCountsSaid : Prop := machineCountsRow.holds Try.pinned (OpenSpec.ofChange machineCountsSpec)

/-- ITS FALSE NEIGHBOUR: 'it returns false'. Refute it at one input. -/
def machineCountsWrong : ChangeSpec := { name := "machineCounts", fn := fun _ => fun
  | [d1, d2] => { results := [.lit (.bool false)], args := [d1, d2] }
  | _ => none }
def MachineCountsWrongFalsely : Prop := machineCountsRow.holds Try.pinned (OpenSpec.ofChange machineCountsWrong)

/-- 'ferrymanlaw14.MachineApart': WHATEVER THE INPUT: true; the input reads as it did. -/
def machineApartSpec : ChangeSpec := { name := "machineApart", fn := fun _ => fun
  | [d1, d2] => { results := [.lit (.bool true)], args := [d1, d2] }
  | _ => none }
def machineApartRow : OpenClaim := { program := "ytjbmfmhibmnaiaa", sum := "75f6eee95040402e925e18e674f995c577572baa696d8d8ed86d3bffe7fd5040", func := "ferryman/ferrymanlaw14.MachineApart", spec := "machineApart", unfollowed := true, recurses := true, apart := false }
def MachineApartSaid : Prop := machineApartRow.holds Try.pinned (OpenSpec.ofChange machineApartSpec)

/-- ITS FALSE NEIGHBOUR: 'it returns false'. Refute it at one input. -/
def machineApartWrong : ChangeSpec := { name := "machineApart", fn := fun _ => fun
  | [d1, d2] => { results := [.lit (.bool false)], args := [d1, d2] }
  | _ => none }
def MachineApartWrongFalsely : Prop := machineApartRow.holds Try.pinned (OpenSpec.ofChange machineApartWrong)

/-- 'ferrymanlaw20.NetDoes': WHATEVER THE INPUT: true; the input reads as it did. -/
def netDoesSpec : ChangeSpec := { name := "netDoes", fn := fun _ => fun
  | [d] => { results := [.lit (.bool true)], args := [d] }
  | _ => none }
def netDoesRow : OpenClaim := { program := "ytjbmfmhibmnaiaa", sum := "75f6eee95040402e925e18e674f995c577572baa696d8d8ed86d3bffe7fd5040", func := "ferryman/ferrymanlaw20.NetDoes", spec := "netDoes", apart := false }
def NetDoesSaid : Prop := netDoesRow.holds Try.pinned (OpenSpec.ofChange netDoesSpec)

/-- ITS FALSE NEIGHBOUR: 'it returns false'. Refute it at one input. -/
def netDoesWrong : ChangeSpec := { name := "netDoes", fn := fun _ => fun
  | [d] => { results := [.lit (.bool false)], args := [d] }
  | _ => none }
def NetDoesWrongFalsely : Prop := netDoesRow.holds Try.pinned (OpenSpec.ofChange netDoesWrong)

/-- 'ferrymanlaw20.NetSent': WHATEVER THE INPUT: true; the input reads as it did. -/
def netSentSpec : ChangeSpec := { name := "netSent", fn := fun _ => fun
  | [d] => { results := [.lit (.bool true)], args := [d] }
  | _ => none }
def netSentRow : OpenClaim := { program := "ytjbmfmhibmnaiaa", sum := "75f6eee95040402e925e18e674f995c577572baa696d8d8ed86d3bffe7fd5040", func := "ferryman/ferrymanlaw20.NetSent", spec := "netSent", apart := false }
def NetSentSaid : Prop := netSentRow.holds Try.pinned (OpenSpec.ofChange netSentSpec)

/-- ITS FALSE NEIGHBOUR: 'it returns false'. Refute it at one input. -/
def netSentWrong : ChangeSpec := { name := "netSent", fn := fun _ => fun
  | [d] => { results := [.lit (.bool false)], args := [d] }
  | _ => none }
def NetSentWrongFalsely : Prop := netSentRow.holds Try.pinned (OpenSpec.ofChange netSentWrong)

/-- 'ferrymanlaw20.NetCounts': WHATEVER THE INPUT: true; the input reads as it did. -/
def netCountsSpec : ChangeSpec := { name := "netCounts", fn := fun _ => fun
  | [d] => { results := [.lit (.bool true)], args := [d] }
  | _ => none }
def netCountsRow : OpenClaim := { program := "ytjbmfmhibmnaiaa", sum := "75f6eee95040402e925e18e674f995c577572baa696d8d8ed86d3bffe7fd5040", func := "ferryman/ferrymanlaw20.NetCounts", spec := "netCounts", apart := false }
def NetCountsSaid : Prop := netCountsRow.holds Try.pinned (OpenSpec.ofChange netCountsSpec)

/-- ITS FALSE NEIGHBOUR: 'it returns false'. Refute it at one input. -/
def netCountsWrong : ChangeSpec := { name := "netCounts", fn := fun _ => fun
  | [d] => { results := [.lit (.bool false)], args := [d] }
  | _ => none }
def NetCountsWrongFalsely : Prop := netCountsRow.holds Try.pinned (OpenSpec.ofChange netCountsWrong)

/- THE SECOND FORM. 'bulk': how many values and letters a reading holds, each counted each time it is reached (what is shared counts as often as it is met; a slice's spare places count too). A statement '..UptoSaid' is the law's where the arguments, and the package variables that the reading takes, are together of bulk at most 1048576: NARROWER than '..Said'. Prove '..Said' where nothing that the law and all that it calls make is longer than what came in: it says more and counts as full. Else prove '..UptoSaid'. A law counts once. -/
mutual
def uptoBulk {H : Type} : DataW H → Nat
  | .lit (.string bytes) => bytes.length + 1
  | .lit _ => 1
  | .nil => 1
  | .ptr d => uptoBulk d + 1
  | .slice elems spare => uptoBulkAll elems + uptoBulkAll spare + 1
  | .agg parts => uptoBulkAll parts + 1
  | .iface _ d => uptoBulk d + 1
  | .map entries => uptoBulkEntries entries + 1
  | .held _ => 1
def uptoBulkAll {H : Type} : List (DataW H) → Nat
  | [] => 0
  | d :: r => uptoBulk d + uptoBulkAll r
def uptoBulkEntries {H : Type} : List (Lit × DataW H) → Nat
  | [] => 0
  | x :: r => uptoBulkEntry x + uptoBulkEntries r
def uptoBulkEntry {H : Type} : Lit × DataW H → Nat
  | (.string bytes, d) => bytes.length + uptoBulk d + 1
  | (_, d) => uptoBulk d + 1
 end
def uptoSmall : (H : Type) → List (DataW H) → Bool := fun _ ds => decide (uptoBulkAll ds ≤ 1048576)
def OpenSpec.upto (s : _root_.Go.ChangeSpec) : _root_.Go.OpenSpec := { _root_.Go.OpenSpec.ofChange s with cond := some uptoSmall }

/-- 'ferrymanlaw14.MachineOnce', WHERE WHAT IT READS IS OF BULK AT MOST 1048576: true; the input reads as it did. -/
def machineOnceUptoRow : OpenClaim := { program := "ytjbmfmhibmnaiaa", sum := "75f6eee95040402e925e18e674f995c577572baa696d8d8ed86d3bffe7fd5040", func := "ferryman/ferrymanlaw14.MachineOnce", spec := "machineOnce", unfollowed := true, recurses := true, apart := false, narrowed := true }
def MachineOnceUptoSaid : Prop := machineOnceUptoRow.holds Try.pinned (OpenSpec.upto machineOnceSpec)

/-- 'ferrymanlaw14.MachineCounts', WHERE WHAT IT READS IS OF BULK AT MOST 1048576: true; the input reads as it did. -/
def machineCountsUptoRow : OpenClaim := { program := "ytjbmfmhibmnaiaa", sum := "75f6eee95040402e925e18e674f995c577572baa696d8d8ed86d3bffe7fd5040", func := "ferryman/ferrymanlaw14.MachineCounts", spec := "machineCounts", unfollowed := true, recurses := true, apart := false, narrowed := true }
def MachineCountsUptoSaid : Prop := machineCountsUptoRow.holds Try.pinned (OpenSpec.upto machineCountsSpec)

/-- 'ferrymanlaw14.MachineApart', WHERE WHAT IT READS IS OF BULK AT MOST 1048576: true; the input reads as it did. -/
def machineApartUptoRow : OpenClaim := { program := "ytjbmfmhibmnaiaa", sum := "75f6eee95040402e925e18e674f995c577572baa696d8d8ed86d3bffe7fd5040", func := "ferryman/ferrymanlaw14.MachineApart", spec := "machineApart", unfollowed := true, recurses := true, apart := false, narrowed := true }
def MachineApartUptoSaid : Prop := machineApartUptoRow.holds Try.pinned (OpenSpec.upto machineApartSpec)

/-- 'ferrymanlaw20.NetDoes', WHERE WHAT IT READS IS OF BULK AT MOST 1048576: true; the input reads as it did. -/
def netDoesUptoRow : OpenClaim := { program := "ytjbmfmhibmnaiaa", sum := "75f6eee95040402e925e18e674f995c577572baa696d8d8ed86d3bffe7fd5040", func := "ferryman/ferrymanlaw20.NetDoes", spec := "netDoes", apart := false, narrowed := true }
def NetDoesUptoSaid : Prop := netDoesUptoRow.holds Try.pinned (OpenSpec.upto netDoesSpec)

/-- 'ferrymanlaw20.NetSent', WHERE WHAT IT READS IS OF BULK AT MOST 1048576: true; the input reads as it did. -/
def netSentUptoRow : OpenClaim := { program := "ytjbmfmhibmnaiaa", sum := "75f6eee95040402e925e18e674f995c577572baa696d8d8ed86d3bffe7fd5040", func := "ferryman/ferrymanlaw20.NetSent", spec := "netSent", apart := false, narrowed := true }
def NetSentUptoSaid : Prop := netSentUptoRow.holds Try.pinned (OpenSpec.upto netSentSpec)

/-- 'ferrymanlaw20.NetCounts', WHERE WHAT IT READS IS OF BULK AT MOST 1048576: true; the input reads as it did. -/
def netCountsUptoRow : OpenClaim := { program := "ytjbmfmhibmnaiaa", sum := "75f6eee95040402e925e18e674f995c577572baa696d8d8ed86d3bffe7fd5040", func := "ferryman/ferrymanlaw20.NetCounts", spec := "netCounts", apart := false, narrowed := true }
def NetCountsUptoSaid : Prop := netCountsUptoRow.holds Try.pinned (OpenSpec.upto netCountsSpec)

end Rows
end Go.Proofs.Ytjbmfmhibmnaiaa
