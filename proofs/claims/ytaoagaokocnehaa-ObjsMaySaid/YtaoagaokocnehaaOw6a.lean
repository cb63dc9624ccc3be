/-
  Package objs: the walk of store.
-/
import Derived.Test.YtaoagaokocnehaaOw5
import Derived.Deep.RegionWith
namespace Go.Proofs.Ytaoagaokocnehaa
set_option linter.unusedVariables false
set_option linter.unusedSimpArgs false
open Go.RowKit

theorem may_pairs {s : St} (hk : s.kind = 4 ∨ s.kind = 5) (hm : mayB s = true) : s.L.length % 2 = 0 ∧ s.L.length ≤ 128 := by
  unfold mayB at hm
  split at hm
  · simp at hm
  · rcases hk with h | h <;> simp only [h] at hm <;> simp [pairsB] at hm <;> exact ⟨hm.2.1, hm.2.2⟩

theorem below3d (w : World) (a b c : Obj) (q : Nat) : Below w.heap.size w ((((w.alloc a).alloc b).alloc c).drewN q) := (below3 w a b c).trans ⟨rfl, rfl, rfl, Nat.le_refl _, fun _ _ => rfl⟩
theorem below_undrew {n : Nat} {W w1 : World} {q : Nat} (h : Below n (W.drewN q) w1) : Below n W w1 := ⟨h.os, h.tape, h.output, h.size, h.block⟩
theorem below3dd (w : World) (a b c : Obj) (q r : Nat) : Below w.heap.size w (((((w.alloc a).alloc b).alloc c).drewN q).drewN r) := (below3 w a b c).trans ⟨rfl, rfl, rfl, Nat.le_refl _, fun _ _ => rfl⟩
theorem below_res {w W : World} (h : Below w.heap.size w W) (C : Nat) (hC : w.heap.size ≤ C) (v1 v2 v3 v4 : Value) : Below w.heap.size w ((((W.setCell ⟨C, 0, none⟩ v1).setCell ⟨C, 1, none⟩ v2).setCell ⟨C, 2, none⟩ v3).setCell ⟨C, 3, none⟩ v4) :=
  (((h.setCell (p := ⟨C, 0, none⟩) hC _).setCell (p := ⟨C, 1, none⟩) hC _).setCell (p := ⟨C, 2, none⟩) hC _).setCell (p := ⟨C, 3, none⟩) hC _
theorem drewN3 (w : World) (q r : Nat) : (w.drewN q).drewN r = w.drewN (q + r) := World.drewN_drewN ..

end Go.Proofs.Ytaoagaokocnehaa
