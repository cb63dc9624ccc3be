/-
  A state in a box of the law's own: what a law knows of it, from step to step.
-/
import Derived.Test.YtaoagaokocnehaaAwk04
namespace Go.Proofs.Ytaoagaokocnehaa
set_option linter.unusedVariables false
set_option linter.unusedSimpArgs false
open Go.RowKit

/-- v reads as L; it is what came in, or a row of the program's own. -/
def Held (w wr : World) (v : Value) (L : List Int) : Prop := Rd wr v L ∧ ((∃ L0, Rd w v L0) ∨ Own wr 3 1 v L.length (ints L))
theorem Held.below {w wr W : World} {v : Value} {L : List Int} (h : Held w wr v L) (hB : Below wr.heap.size wr W) : Held w W v L :=
  ⟨h.1.below hB (Nat.le_refl _), h.2.imp id fun h2 => own_keeps h2 (Keeps.ofBelow (F := fun _ => False) hB) (by simp)⟩
theorem Held.other {w wr W : World} {v : Value} {L : List Int} {B : Nat} {cs : Array Value} (h : Held w wr v L) (hw : Below w.heap.size w wr) (hB : Blk wr B cs 24) (hge : w.heap.size ≤ B) (hk : Keeps (fun k => k = B) wr W) : Held w W v L := by
  rcases h.2 with ⟨L0, h0⟩ | h2
  · have e := rd_inj h.1 (h0.below hw (Nat.le_refl _))
    have hW := hw.trans (hk.below (B := w.heap.size) (by rintro k rfl; exact hge) hw.size)
    exact ⟨e ▸ h0.below hW (Nat.le_refl _), .inl ⟨L0, h0⟩⟩
  · have h3 := own_keeps h2 hk fun q hq e => own_blk_ne h2 hB (by decide) (e ▸ hq)
    exact ⟨own_rd h3, .inr h3⟩
theorem Held.step {w W W' : World} {v0 v : Value} {L0 L : List Int} (h : Held w W v0 L0) (h1 : Rd W' v L) (h2 : Below W.heap.size W W') (h3 : v = v0 ∨ (Own W' 3 1 v L.length (ints L) ∧ Fresh W.heap.size v)) : Held w W' v L := by
  rcases h3 with rfl | h3
  · have e := rd_inj h1 (h.below h2).1
    rw [e]
    exact h.below h2
  · exact ⟨h1, .inr h3.1⟩

/-- A box that holds a state. -/
def Boxed (w wr : World) (B : Nat) (s : St) : Prop := w.heap.size ≤ B ∧ Below w.heap.size w wr ∧ ∃ vl, Blk wr B #[.int .i64 s.kind, vl, .bool s.isSealed, .int .i64 s.to] 24 ∧ Held w wr vl s.L
theorem Boxed.below {w wr W : World} {B : Nat} {s : St} (h : Boxed w wr B s) (hB : Below wr.heap.size wr W) : Boxed w W B s := by
  obtain ⟨h1, h2, vl, h3, h4⟩ := h
  exact ⟨h1, h2.trans (hB.mono h2.size), vl, h3.below hB h3.lt, h4.below hB⟩
/-- A box gets another box's state. -/
theorem boxed_set {w wr : World} {B : Nat} {v1 v2 v3 v4 vl : Value} (h1 : w.heap.size ≤ B) (h2 : Below w.heap.size w wr) (h3 : Blk wr B #[v1, v2, v3, v4] 24) (s : St) (h4 : Held w wr vl s.L) :
    Boxed w ((((wr.setCell ⟨B, 0, none⟩ (.int .i64 s.kind)).setCell ⟨B, 1, none⟩ vl).setCell ⟨B, 2, none⟩ (.bool s.isSealed)).setCell ⟨B, 3, none⟩ (.int .i64 s.to)) B s := by
  have hk : Keeps (fun k => k = B) wr ((((wr.setCell ⟨B, 0, none⟩ (.int .i64 s.kind)).setCell ⟨B, 1, none⟩ vl).setCell ⟨B, 2, none⟩ (.bool s.isSealed)).setCell ⟨B, 3, none⟩ (.int .i64 s.to)) :=
    ((((Keeps.refl (fun k => k = B) wr).set B 0 (.inl rfl) _).set B 1 (.inl rfl) _).set B 2 (.inl rfl) _).set B 3 (.inl rfl) _
  exact ⟨h1, h2.trans (hk.below (by rintro k rfl; exact h1) h2.size), vl, (((h3.set 0 _).set 1 _).set 2 _).set 3 _, h4.other h2 h3 h1 hk⟩
end Go.Proofs.Ytaoagaokocnehaa
