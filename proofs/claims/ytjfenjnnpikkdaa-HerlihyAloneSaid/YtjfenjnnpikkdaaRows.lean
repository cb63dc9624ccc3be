/-
  No cell of these rows narrows 'for every input' (looked for: loops, veiled, ifaces, maps, wideKeys, modest, calm, conditions, laid).
  DERIVED. THE GIVEN ROWS OF THIS SEAT. 10 by the template 'for every input the law returns true; each argument reads behind the call as it read before'; 0 by the template 'total and deterministic' (their statements: YtjfenjnnpikkdaaTotals.lean).
  GIVEN WITH THE SEED: the statements are not yours to turn. If you find one false, say at which input.
  Laid BY PROGRAM, IN A SANDBOX (cutbox-rows.mjs): the forced cells as the released guide's own fill.sh prints them over the translation 2a3ce34501d678b2… (all of the seat's roots in one cut). By AI agents, Wed Nov 11 2026. No macro, syntax, notation, axiom, sorry.
-/
import Derived.Test.YtjfenjnnpikkdaaChecked
import GoSem.Claim
import GoSem.ClaimJoined
import GoSem.ClaimMapViews
import Derived.JoinedTies
import Derived.KernelRfl
namespace Go.Proofs.Ytjfenjnnpikkdaa
/- THE CELL 'sum', in the pinned program and in every row, IS THE sha256 OF THE DUMP (.gsa) THAT YtjfenjnnpikkdaaProg.lean LOADS. Nothing in Lean hashes anything: it is a label: what it is worth is what the hold of that sum in a sandbox is worth. -/
noncomputable def Try.pinned : Pinned := { name := "ytjfenjnnpikkdaa", sum := "2a3ce34501d678b2bf0aeb6fa7a5e86ab9577d943b9cb95a84c3df02c4fc58ea", checked := Try.checked }
namespace Rows
def none {H : Type} : Left H := { results := [], args := [] }

/-- 'ferrymanlaw16.PsimFolds': WHATEVER THE INPUT: true; the input reads as it did. -/
def psimFoldsSpec : ChangeSpec := { name := "psimFolds", fn := fun _ => fun
  | [d1, d2, d3] => { results := [.lit (.bool true)], args := [d1, d2, d3] }
  | _ => none }
def psimFoldsRow : OpenClaim := { program := "ytjfenjnnpikkdaa", sum := "2a3ce34501d678b2bf0aeb6fa7a5e86ab9577d943b9cb95a84c3df02c4fc58ea", func := "ferryman/ferrymanlaw16.PsimFolds", spec := "psimFolds", inPlace := ["slices.overlaps[int]"], unfollowed := true, recurses := true, apart := false }
def PsimFoldsSaid : Prop := psimFoldsRow.holds Try.pinned (OpenSpec.ofChange psimFoldsSpec)

/-- ITS FALSE NEIGHBOUR: 'it returns false'. Refute it at one input. -/
def psimFoldsWrong : ChangeSpec := { name := "psimFolds", fn := fun _ => fun
  | [d1, d2, d3] => { results := [.lit (.bool false)], args := [d1, d2, d3] }
  | _ => none }
def PsimFoldsWrongFalsely : Prop := psimFoldsRow.holds Try.pinned (OpenSpec.ofChange psimFoldsWrong)

/-- 'ferrymanlaw16.PsimOnce': WHATEVER THE INPUT: true; the input reads as it did. -/
def psimOnceSpec : ChangeSpec := { name := "psimOnce", fn := fun _ => fun
  | [d1, d2, d3] => { results := [.lit (.bool true)], args := [d1, d2, d3] }
  | _ => none }
def psimOnceRow : OpenClaim := { program := "ytjfenjnnpikkdaa", sum := "2a3ce34501d678b2bf0aeb6fa7a5e86ab9577d943b9cb95a84c3df02c4fc58ea", func := "ferryman/ferrymanlaw16.PsimOnce", spec := "psimOnce", inPlace := ["slices.overlaps[int]"], unfollowed := true, recurses := true, apart := false }
def PsimOnceSaid : Prop := psimOnceRow.holds Try.pinned (OpenSpec.ofChange psimOnceSpec)

/-- ITS FALSE NEIGHBOUR: 'it returns false'. Refute it at one input. -/
def psimOnceWrong : ChangeSpec := { name := "psimOnce", fn := fun _ => fun
  | [d1, d2, d3] => { results := [.lit (.bool false)], args := [d1, d2, d3] }
  | _ => none }
def PsimOnceWrongFalsely : Prop := psimOnceRow.holds Try.pinned (OpenSpec.ofChange psimOnceWrong)

/-- 'ferrymanlaw16.PsimOrder': WHATEVER THE INPUT: true; the input reads as it did. -/
def psimOrderSpec : ChangeSpec := { name := "psimOrder", fn := fun _ => fun
  | [d1, d2, d3] => { results := [.lit (.bool true)], args := [d1, d2, d3] }
  | _ => none }
def psimOrderRow : OpenClaim := { program := "ytjfenjnnpikkdaa", sum := "2a3ce34501d678b2bf0aeb6fa7a5e86ab9577d943b9cb95a84c3df02c4fc58ea", func := "ferryman/ferrymanlaw16.PsimOrder", spec := "psimOrder", inPlace := ["slices.overlaps[int]"], unfollowed := true, recurses := true, apart := false }
def PsimOrderSaid : Prop := psimOrderRow.holds Try.pinned (OpenSpec.ofChange psimOrderSpec)

/-- ITS FALSE NEIGHBOUR: 'it returns false'. Refute it at one input. -/
def psimOrderWrong : ChangeSpec := { name := "psimOrder", fn := fun _ => fun
  | [d1, d2, d3] => { results := [.lit (.bool false)], args := [d1, d2, d3] }
  | _ => none }
def PsimOrderWrongFalsely : Prop := psimOrderRow.holds Try.pinned (OpenSpec.ofChange psimOrderWrong)

/-- 'ferrymanlaw16.PsimGrows': WHATEVER THE INPUT: true; the input reads as it did. -/
def psimGrowsSpec : ChangeSpec := { name := "psimGrows", fn := fun _ => fun
  | [d1, d2, d3, d4] => { results := [.lit (.bool true)], args := [d1, d2, d3, d4] }
  | _ => none }
def psimGrowsRow : OpenClaim := { program := "ytjfenjnnpikkdaa", sum := "2a3ce34501d678b2bf0aeb6fa7a5e86ab9577d943b9cb95a84c3df02c4fc58ea", func := "ferryman/ferrymanlaw16.PsimGrows", spec := "psimGrows", inPlace := ["slices.overlaps[int]"], unfollowed := true, recurses := true, apart := false }
def PsimGrowsSaid : Prop := psimGrowsRow.holds Try.pinned (OpenSpec.ofChange psimGrowsSpec)

/-- ITS FALSE NEIGHBOUR: 'it returns false'. Refute it at one input. -/
def psimGrowsWrong : ChangeSpec := { name := "psimGrows", fn := fun _ => fun
  | [d1, d2, d3, d4] => { results := [.lit (.bool false)], args := [d1, d2, d3, d4] }
  | _ => none }
def PsimGrowsWrongFalsely : Prop := psimGrowsRow.holds Try.pinned (OpenSpec.ofChange psimGrowsWrong)

/-- 'ferrymanlaw16.PsimAlone': WHATEVER THE INPUT: true; the input reads as it did. -/
def psimAloneSpec : ChangeSpec := { name := "psimAlone", fn := fun _ => fun
  | [d1, d2, d3] => { results := [.lit (.bool true)], args := [d1, d2, d3] }
  | _ => none }
def psimAloneRow : OpenClaim := { program := "ytjfenjnnpikkdaa", sum := "2a3ce34501d678b2bf0aeb6fa7a5e86ab9577d943b9cb95a84c3df02c4fc58ea", func := "ferryman/ferrymanlaw16.PsimAlone", spec := "psimAlone", inPlace := ["slices.overlaps[int]"], unfollowed := true, recurses := true, apart := false }
def PsimAloneSaid : Prop := psimAloneRow.holds Try.pinned (OpenSpec.ofChange psimAloneSpec)

/-- ITS FALSE NEIGHBOUR: 'it returns false'. Refute it at one input. -/
def psimAloneWrong : ChangeSpec := { name := "psimAlone", fn := fun _ => fun
  | [d1, d2, d3] => { results := [.lit (.bool false)], args := [d1, d2, d3] }
  | _ => none }
def PsimAloneWrongFalsely : Prop := psimAloneRow.holds Try.pinned (OpenSpec.ofChange psimAloneWrong)

/-- 'ferrymanlaw15.HerlihyFolds': WHATEVER THE INPUT: true; the input reads as it did. -/
def herlihyFoldsSpec : ChangeSpec := { name := "herlihyFolds", fn := fun _ => fun
  | [d1, d2, d3] => { results := [.lit (.bool true)], args := [d1, d2, d3] }
  | _ => none }
def herlihyFoldsRow : OpenClaim := { program := "ytjfenjnnpikkdaa", sum := "2a3ce34501d678b2bf0aeb6fa7a5e86ab9577d943b9cb95a84c3df02c4fc58ea", func := "ferryman/ferrymanlaw15.HerlihyFolds", spec := "herlihyFolds", inPlace := ["slices.overlaps[int]"], unfollowed := true, recurses := true, apart := false }
def HerlihyFoldsSaid : Prop := herlihyFoldsRow.holds Try.pinned (OpenSpec.ofChange herlihyFoldsSpec)

/-- ITS FALSE NEIGHBOUR: 'it returns false'. Refute it at one input. -/
def herlihyFoldsWrong : ChangeSpec := { name := "herlihyFolds", fn := fun _ => fun
  | [d1, d2, d3] => { results := [.lit (.bool false)], args := [d1, d2, d3] }
  | _ => none }
def HerlihyFoldsWrongFalsely : Prop := herlihyFoldsRow.holds Try.pinned (OpenSpec.ofChange herlihyFoldsWrong)

/-- 'ferrymanlaw15.HerlihyOnce': WHATEVER THE INPUT: true; the input reads as it did. -/
def herlihyOnceSpec : ChangeSpec := { name := "herlihyOnce", fn := fun _ => fun
  | [d1, d2, d3] => { results := [.lit (.bool true)], args := [d1, d2, d3] }
  | _ => none }
def herlihyOnceRow : OpenClaim := { program := "ytjfenjnnpikkdaa", sum := "2a3ce34501d678b2bf0aeb6fa7a5e86ab9577d943b9cb95a84c3df02c4fc58ea", func := "ferryman/ferrymanlaw15.HerlihyOnce", spec := "herlihyOnce", inPlace := ["slices.overlaps[int]"], unfollowed := true, recurses := true, apart := false }
def HerlihyOnceSaid : Prop := herlihyOnceRow.holds Try.pinned (OpenSpec.ofChange herlihyOnceSpec)

/-- ITS FALSE NEIGHBOUR: 'it returns false'. Refute it at one input. -/
def herlihyOnceWrong : ChangeSpec := { name := "herlihyOnce", fn := fun _ => fun
  | [d1, d2, d3] => { results := [.lit (.bool false)], args := [d1, d2, d3] }
  | _ => none }
def HerlihyOnceWrongFalsely : Prop := herlihyOnceRow.holds Try.pinned (OpenSpec.ofChange herlihyOnceWrong)

/-- 'ferrymanlaw15.HerlihyOrder': WHATEVER THE INPUT: true; the input reads as it did. -/
def herlihyOrderSpec : ChangeSpec := { name := "herlihyOrder", fn := fun _ => fun
  | [d1, d2, d3] => { results := [.lit (.bool true)], args := [d1, d2, d3] }
  | _ => none }
def herlihyOrderRow : OpenClaim := { program := "ytjfenjnnpikkdaa", sum := "2a3ce34501d678b2bf0aeb6fa7a5e86ab9577d943b9cb95a84c3df02c4fc58ea", func := "ferryman/ferrymanlaw15.HerlihyOrder", spec := "herlihyOrder", inPlace := ["slices.overlaps[int]"], unfollowed := true, recurses := true, apart := false }
def HerlihyOrderSaid : Prop := herlihyOrderRow.holds Try.pinned (OpenSpec.ofChange herlihyOrderSpec)

/-- ITS FALSE NEIGHBOUR: 'it returns false'. Refute it at one input. -/
def herlihyOrderWrong : ChangeSpec := { name := "herlihyOrder", fn := fun _ => fun
  | [d1, d2, d3] => { results := [.lit (.bool false)], args := [d1, d2, d3] }
  | _ => none }
def HerlihyOrderWrongFalsely : Prop := herlihyOrderRow.holds Try.pinned (OpenSpec.ofChange herlihyOrderWrong)

/-- 'ferrymanlaw15.HerlihyGrows': WHATEVER THE INPUT: true; the input reads as it did. -/
def herlihyGrowsSpec : ChangeSpec := { name := "herlihyGrows", fn := fun _ => fun
  | [d1, d2, d3, d4] => { results := [.lit (.bool true)], args := [d1, d2, d3, d4] }
  | _ => none }
def herlihyGrowsRow : OpenClaim := { program := "ytjfenjnnpikkdaa", sum := "2a3ce34501d678b2bf0aeb6fa7a5e86ab9577d943b9cb95a84c3df02c4fc58ea", func := "ferryman/ferrymanlaw15.HerlihyGrows", spec := "herlihyGrows", inPlace := ["slices.overlaps[int]"], unfollowed := true, recurses := true, apart := false }
def HerlihyGrowsSaid : Prop := herlihyGrowsRow.holds Try.pinned (OpenSpec.ofChange herlihyGrowsSpec)

/-- ITS FALSE NEIGHBOUR: 'it returns false'. Refute it at one input. -/
def herlihyGrowsWrong : ChangeSpec := { name := "herlihyGrows", fn := fun _ => fun
  | [d1, d2, d3, d4] => { results := [.lit (.bool false)], args := [d1, d2, d3, d4] }
  | _ => none }
def HerlihyGrowsWrongFalsely : Prop := herlihyGrowsRow.holds Try.pinned (OpenSpec.ofChange herlihyGrowsWrong)

/-- 'ferrymanlaw15.HerlihyAlone': WHATEVER THE INPUT: true; the input reads as it did. -/
def herlihyAloneSpec : ChangeSpec := { name := "herlihyAlone", fn := fun _ => fun
  | [d1, d2, d3] => { results := [.lit (.bool true)], args := [d1, d2, d3] }
  | _ => none }
def herlihyAloneRow : OpenClaim := { program := "ytjfenjnnpikkdaa", sum := "2a3ce34501d678b2bf0aeb6fa7a5e86ab9577d943b9cb95a84c3df02c4fc58ea", func := "ferryman/ferrymanlaw15.HerlihyAlone", spec := "herlihyAlone", inPlace := ["slices.overlaps[int]"], unfollowed := true, recurses := true, apart := false }
def HerlihyAloneSaid : Prop := herlihyAloneRow.holds Try.pinned (OpenSpec.ofChange herlihyAloneSpec)

/-- ITS FALSE NEIGHBOUR: 'it returns false'. Refute it at one input. -/
def herlihyAloneWrong : ChangeSpec := { name := "herlihyAlone", fn := fun _ => fun
  | [d1, d2, d3] => { results := [.lit (.bool false)], args := [d1, d2, d3] }
  | _ => none }
def HerlihyAloneWrongFalsely : Prop := herlihyAloneRow.holds Try.pinned (OpenSpec.ofChange herlihyAloneWrong)

/- THE SECOND FORM. 'bulk': how many values and letters a reading holds, each counted each time it is reached (what is shared counts as often as it is met; a slice's spare places count too). A statement '..UptoSaid' is the law's where the arguments, and the package variables that the reading takes, are together of bulk at most 1048576: NARROWER than '..Said'. Prove '..Said' where nothing that the law and all that it calls make is longer than what came in: it says more and counts as full. Else prove '..UptoSaid'. A law counts once. -/
mutual
def uptoBulk {H : Type} : DataW H → Nat
  | .lit (.string bytes) => bytes.length + 1
  | .lit _ => 1
  | .nil => 1
  | .ptr d => uptoBulk d + 1
  | .slice elems spare => uptoBulkAll elems + uptoBulkAll spare + 1
  | .agg parts => uptoBulkAll parts + 1
  | .iface _ d => uptoBulk d + 1
  | .map entries => uptoBulkEntries entries + 1
  | .held _ => 1
def uptoBulkAll {H : Type} : List (DataW H) → Nat
  | [] => 0
  | d :: r => uptoBulk d + uptoBulkAll r
def uptoBulkEntries {H : Type} : List (Lit × DataW H) → Nat
  | [] => 0
  | x :: r => uptoBulkEntry x + uptoBulkEntries r
def uptoBulkEntry {H : Type} : Lit × DataW H → Nat
  | (.string bytes, d) => bytes.length + uptoBulk d + 1
  | (_, d) => uptoBulk d + 1
 end
def uptoSmall : (H : Type) → List (DataW H) → Bool := fun _ ds => decide (uptoBulkAll ds ≤ 1048576)
def OpenSpec.upto (s : _root_.Go.ChangeSpec) : _root_.Go.OpenSpec := { _root_.Go.OpenSpec.ofChange s with cond := some uptoSmall }

/-- 'ferrymanlaw16.PsimFolds', WHERE WHAT IT READS IS OF BULK AT MOST 1048576: true; the input reads as it did. -/
def psimFoldsUptoRow : OpenClaim := { program := "ytjfenjnnpikkdaa", sum := "2a3ce34501d678b2bf0aeb6fa7a5e86ab9577d943b9cb95a84c3df02c4fc58ea", func := "ferryman/ferrymanlaw16.PsimFolds", spec := "psimFolds", inPlace := ["slices.overlaps[int]"], unfollowed := true, recurses := true, apart := false, narrowed := true }
def PsimFoldsUptoSaid : Prop := psimFoldsUptoRow.holds Try.pinned (OpenSpec.upto psimFoldsSpec)

/-- 'ferrymanlaw16.PsimOnce', WHERE WHAT IT READS IS OF BULK AT MOST 1048576: true; the input reads as it did. -/
def psimOnceUptoRow : OpenClaim := { program := "ytjfenjnnpikkdaa", sum := "2a3ce34501d678b2bf0aeb6fa7a5e86ab9577d943b9cb95a84c3df02c4fc58ea", func := "ferryman/ferrymanlaw16.PsimOnce", spec := "psimOnce", inPlace := ["slices.overlaps[int]"], unfollowed := true, recurses := true, apart := false, narrowed := true }
def PsimOnceUptoSaid : Prop := psimOnceUptoRow.holds Try.pinned (OpenSpec.upto psimOnceSpec)

/-- 'ferrymanlaw16.PsimOrder', WHERE WHAT IT READS IS OF BULK AT MOST 1048576: true; the input reads as it did. -/
def psimOrderUptoRow : OpenClaim := { program := "ytjfenjnnpikkdaa", sum := "2a3ce34501d678b2bf0aeb6fa7a5e86ab9577d943b9cb95a84c3df02c4fc58ea", func := "ferryman/ferrymanlaw16.PsimOrder", spec := "psimOrder", inPlace := ["slices.overlaps[int]"], unfollowed := true, recurses := true, apart := false, narrowed := true }
def PsimOrderUptoSaid : Prop := psimOrderUptoRow.holds Try.pinned (OpenSpec.upto psimOrderSpec)

/-- 'ferrymanlaw16.PsimGrows', WHERE WHAT IT READS IS OF BULK AT MOST 1048576: true; the input reads as it did. -/
def psimGrowsUptoRow : OpenClaim := { program := "ytjfenjnnpikkdaa", sum := "2a3ce34501d678b2bf0aeb6fa7a5e86ab9577d943b9cb95a84c3df02c4fc58ea", func := "ferryman/ferrymanlaw16.PsimGrows", spec := "psimGrows", inPlace := ["slices.overlaps[int]"], unfollowed := true, recurses := true, apart := false, narrowed := true }
def PsimGrowsUptoSaid : Prop := psimGrowsUptoRow.holds Try.pinned (OpenSpec.upto psimGrowsSpec)

/-- 'ferrymanlaw16.PsimAlone', WHERE WHAT IT READS IS OF BULK AT MOST 1048576: true; the input reads as it did. -/
def psimAloneUptoRow : OpenClaim := { program := "ytjfenjnnpikkdaa", sum := "2a3ce34501d678b2bf0aeb6fa7a5e86ab9577d943b9cb95a84c3df02c4fc58ea", func := "ferryman/ferrymanlaw16.PsimAlone", spec := "psimAlone", inPlace := ["slices.overlaps[int]"], unfollowed := true, recurses := true, apart := false, narrowed := true }
def PsimAloneUptoSaid : Prop := psimAloneUptoRow.holds Try.pinned (OpenSpec.upto psimAloneSpec)

/-- 'ferrymanlaw15.HerlihyFolds', WHERE WHAT IT READS IS OF BULK AT MOST 1048576: true; the input reads as it did. -/
def herlihyFoldsUptoRow : OpenClaim := { program := "ytjfenjnnpikkdaa", sum := "2a3ce34501d678b2bf0aeb6fa7a5e86ab9577d943b9cb95a84c3df02c4fc58ea", func := "ferryman/ferrymanlaw15.HerlihyFolds", spec := "herlihyFolds", inPlace := ["slices.overlaps[int]"], unfollowed := true, recurses := true, apart := false, narrowed := true }
def HerlihyFoldsUptoSaid : Prop := herlihyFoldsUptoRow.holds Try.pinned (OpenSpec.upto herlihyFoldsSpec)

/-- 'ferrymanlaw15.HerlihyOnce', WHERE WHAT IT READS IS OF BULK AT MOST 1048576: true; the input reads as it did. -/
def herlihyOnceUptoRow : OpenClaim := { program := "ytjfenjnnpikkdaa", sum := "2a3ce34501d678b2bf0aeb6fa7a5e86ab9577d943b9cb95a84c3df02c4fc58ea", func := "ferryman/ferrymanlaw15.HerlihyOnce", spec := "herlihyOnce", inPlace := ["slices.overlaps[int]"], unfollowed := true, recurses := true, apart := false, narrowed := true }
def HerlihyOnceUptoSaid : Prop := herlihyOnceUptoRow.holds Try.pinned (OpenSpec.upto herlihyOnceSpec)

/-- 'ferrymanlaw15.HerlihyOrder', WHERE WHAT IT READS IS OF BULK AT MOST 1048576: true; the input reads as it did. -/
def herlihyOrderUptoRow : OpenClaim := { program := "ytjfenjnnpikkdaa", sum := "2a3ce34501d678b2bf0aeb6fa7a5e86ab9577d943b9cb95a84c3df02c4fc58ea", func := "ferryman/ferrymanlaw15.HerlihyOrder", spec := "herlihyOrder", inPlace := ["slices.overlaps[int]"], unfollowed := true, recurses := true, apart := false, narrowed := true }
def HerlihyOrderUptoSaid : Prop := herlihyOrderUptoRow.holds Try.pinned (OpenSpec.upto herlihyOrderSpec)

/-- 'ferrymanlaw15.HerlihyGrows', WHERE WHAT IT READS IS OF BULK AT MOST 1048576: true; the input reads as it did. -/
def herlihyGrowsUptoRow : OpenClaim := { program := "ytjfenjnnpikkdaa", sum := "2a3ce34501d678b2bf0aeb6fa7a5e86ab9577d943b9cb95a84c3df02c4fc58ea", func := "ferryman/ferrymanlaw15.HerlihyGrows", spec := "herlihyGrows", inPlace := ["slices.overlaps[int]"], unfollowed := true, recurses := true, apart := false, narrowed := true }
def HerlihyGrowsUptoSaid : Prop := herlihyGrowsUptoRow.holds Try.pinned (OpenSpec.upto herlihyGrowsSpec)

/-- 'ferrymanlaw15.HerlihyAlone', WHERE WHAT IT READS IS OF BULK AT MOST 1048576: true; the input reads as it did. -/
def herlihyAloneUptoRow : OpenClaim := { program := "ytjfenjnnpikkdaa", sum := "2a3ce34501d678b2bf0aeb6fa7a5e86ab9577d943b9cb95a84c3df02c4fc58ea", func := "ferryman/ferrymanlaw15.HerlihyAlone", spec := "herlihyAlone", inPlace := ["slices.overlaps[int]"], unfollowed := true, recurses := true, apart := false, narrowed := true }
def HerlihyAloneUptoSaid : Prop := herlihyAloneUptoRow.holds Try.pinned (OpenSpec.upto herlihyAloneSpec)

end Rows
end Go.Proofs.Ytjfenjnnpikkdaa
