/-
  Boxes of states: opened, assigned; what a region leaves that steps a box into a new one.
-/
import Derived.Test.YtaoagaokocnehaaHeld
namespace Go.Proofs.Ytaoagaokocnehaa
set_option linter.unusedVariables false
set_option linter.unusedSimpArgs false
open Go.RowKit

theorem Boxed.open {w wr : World} {B : Nat} {s : St} (h : Boxed w wr B s) : ∃ a c, (wr.cell? ⟨B, 0, none⟩ = some (.int .i64 s.kind) ∧ wr.cell? ⟨B, 1, none⟩ = some (.slice a s.L.length c) ∧ wr.cell? ⟨B, 2, none⟩ = some (.bool s.isSealed) ∧ wr.cell? ⟨B, 3, none⟩ = some (.int .i64 s.to)) ∧
    (wr.frozen? ⟨B, 0, none⟩ = false ∧ wr.frozen? ⟨B, 1, none⟩ = false ∧ wr.frozen? ⟨B, 2, none⟩ = false ∧ wr.frozen? ⟨B, 3, none⟩ = false) ∧ B < wr.heap.size ∧ Held w wr (.slice a s.L.length c) s.L := by
  obtain ⟨h1, h2, vl, h3, h4⟩ := h
  obtain ⟨a, c, rfl, _⟩ := id h4.1
  exact ⟨a, c, ⟨h3.cell 0, h3.cell 1, h3.cell 2, h3.cell 3⟩, ⟨h3.frozen 0, h3.frozen 1, h3.frozen 2, h3.frozen 3⟩, h3.lt, h4⟩
/-- B = N. -/
theorem Boxed.assign {w wr : World} {B N : Nat} {s t : St} (hB : Boxed w wr B s) (hN : Boxed w wr N t) {v : Value} (hv : wr.cell? ⟨N, 1, none⟩ = some v) :
    Boxed w ((((wr.setCell ⟨B, 0, none⟩ (.int .i64 t.kind)).setCell ⟨B, 1, none⟩ v).setCell ⟨B, 2, none⟩ (.bool t.isSealed)).setCell ⟨B, 3, none⟩ (.int .i64 t.to)) B t := by
  obtain ⟨h1, h2, vl, h3, h4⟩ := hB
  obtain ⟨n1, n2, vn, n3, n4⟩ := hN
  have e : v = vn := by
    have := n3.cell 1
    rw [hv] at this
    simpa using this
  subst e
  exact boxed_set h1 h2 h3 t n4
/-- .. and another box. -/
theorem Boxed.aside {w wr : World} {B D : Nat} {s t : St} (hD : Boxed w wr D t) (hB : Boxed w wr B s) (hne : D ≠ B) (v1 v2 v3 v4 : Value) :
    Boxed w ((((wr.setCell ⟨B, 0, none⟩ v1).setCell ⟨B, 1, none⟩ v2).setCell ⟨B, 2, none⟩ v3).setCell ⟨B, 3, none⟩ v4) D t := by
  obtain ⟨h1, h2, vl, h3, h4⟩ := hB
  obtain ⟨n1, n2, vn, n3, n4⟩ := hD
  have hk : Keeps (fun k => k = B) wr ((((wr.setCell ⟨B, 0, none⟩ v1).setCell ⟨B, 1, none⟩ v2).setCell ⟨B, 2, none⟩ v3).setCell ⟨B, 3, none⟩ v4) :=
    ((((Keeps.refl (fun k => k = B) wr).set B 0 (.inl rfl) _).set B 1 (.inl rfl) _).set B 2 (.inl rfl) _).set B 3 (.inl rfl) _
  exact ⟨n1, n2.trans (hk.below (by rintro k rfl; exact h1) n2.size), vn, n3.keeps hk hne, n4.other n2 h3 h1 hk⟩
/-- Two boxes get two other ones' states. -/
theorem Boxed.assign2 {w wr : World} {B C N M : Nat} {s s' t t' : St} (hB : Boxed w wr B s) (hC : Boxed w wr C s') (hN : Boxed w wr N t) (hM : Boxed w wr M t') {v v' : Value} (hv : wr.cell? ⟨N, 1, none⟩ = some v) (hv' : wr.cell? ⟨M, 1, none⟩ = some v') (hBC : B ≠ C) (hMB : M ≠ B) :
    Boxed w ((((((((wr.setCell ⟨B, 0, none⟩ (.int .i64 t.kind)).setCell ⟨B, 1, none⟩ v).setCell ⟨B, 2, none⟩ (.bool t.isSealed)).setCell ⟨B, 3, none⟩ (.int .i64 t.to)).setCell ⟨C, 0, none⟩ (.int .i64 t'.kind)).setCell ⟨C, 1, none⟩ v').setCell ⟨C, 2, none⟩ (.bool t'.isSealed)).setCell ⟨C, 3, none⟩ (.int .i64 t'.to)) B t ∧
    Boxed w ((((((((wr.setCell ⟨B, 0, none⟩ (.int .i64 t.kind)).setCell ⟨B, 1, none⟩ v).setCell ⟨B, 2, none⟩ (.bool t.isSealed)).setCell ⟨B, 3, none⟩ (.int .i64 t.to)).setCell ⟨C, 0, none⟩ (.int .i64 t'.kind)).setCell ⟨C, 1, none⟩ v').setCell ⟨C, 2, none⟩ (.bool t'.isSealed)).setCell ⟨C, 3, none⟩ (.int .i64 t'.to)) C t' := by
  have h1 := Boxed.assign hB hN hv
  have h2 := Boxed.aside hC hB (Ne.symm hBC) (.int .i64 t.kind) v (.bool t.isSealed) (.int .i64 t.to)
  have h3 := Boxed.aside hM hB hMB (.int .i64 t.kind) v (.bool t.isSealed) (.int .i64 t.to)
  refine ⟨Boxed.aside h1 h2 hBC _ _ _ _, Boxed.assign h2 h3 ?_⟩
  obtain ⟨_, _, vM, hb, _⟩ := hM
  have hk : Keeps (fun k => k = B) wr ((((wr.setCell ⟨B, 0, none⟩ (.int .i64 t.kind)).setCell ⟨B, 1, none⟩ v).setCell ⟨B, 2, none⟩ (.bool t.isSealed)).setCell ⟨B, 3, none⟩ (.int .i64 t.to)) :=
    ((((Keeps.refl (fun k => k = B) wr).set B 0 (.inl rfl) _).set B 1 (.inl rfl) _).set B 2 (.inl rfl) _).set B 3 (.inl rfl) _
  have e : v' = vM := by
    have := hb.cell 1
    rw [hv'] at this
    simpa using this
  rw [e]
  exact (hb.keeps hk hMB).cell 1
/-- What comes in, boxed. -/
theorem boxed_in {w : World} {v : Value} (s : St) (hx : Rd w v s.L) : Boxed w (w.alloc (.cells #[.int .i64 s.kind, v, .bool s.isSealed, .int .i64 s.to] 24)) w.heap.size s :=
  ⟨Nat.le_refl _, (Below.refl _ w).alloc (Nat.le_refl _) _, v, Blk.new _ _ _, hx.alloc _, .inl ⟨_, hx⟩⟩
/-- A new box with a told state. -/
theorem boxed_new {w wr W W4 : World} {v0 v : Value} {s t : St} (hw : Below w.heap.size w wr) (hb : Below wr.heap.size wr W) (h0 : Held w wr v0 s.L) (h1 : Rd W4 v t.L) (h2 : Below W.heap.size W W4) (h3 : v = v0 ∨ (Own W4 3 1 v t.L.length (ints t.L) ∧ Fresh W.heap.size v)) :
    Boxed w (W4.alloc (.cells #[.int .i64 t.kind, v, .bool t.isSealed, .int .i64 t.to] 24)) W4.heap.size t ∧ wr.heap.size ≤ W4.heap.size ∧ Below wr.heap.size wr (W4.alloc (.cells #[.int .i64 t.kind, v, .bool t.isSealed, .int .i64 t.to] 24)) := by
  have hh := Held.step (h0.below hb) h1 h2 h3
  have hb4 : Below wr.heap.size wr W4 := hb.trans (h2.mono hb.size)
  have hw4 := hw.trans (hb4.mono hw.size)
  exact ⟨⟨hw4.size, hw4.alloc hw4.size _, v, Blk.new _ _ _, hh.below ((Below.refl _ _).alloc (Nat.le_refl _) _)⟩, hb4.size, hb4.alloc hb4.size _⟩
/-- .. in a box that stood ahead of the call. -/
theorem boxed_new' {w wr W W4 : World} {v0 v : Value} {s t : St} {B : Nat} {v1 v2 v3 v4 : Value} (hw : Below w.heap.size w wr) (hb : Below wr.heap.size wr W) (h0 : Held w wr v0 s.L) (h1 : Rd W4 v t.L) (h2 : Below W.heap.size W W4) (h3 : v = v0 ∨ (Own W4 3 1 v t.L.length (ints t.L) ∧ Fresh W.heap.size v))
    (hB : Blk W4 B #[v1, v2, v3, v4] 24) (hB0 : wr.heap.size ≤ B) :
    Boxed w ((((W4.setCell ⟨B, 0, none⟩ (.int .i64 t.kind)).setCell ⟨B, 1, none⟩ v).setCell ⟨B, 2, none⟩ (.bool t.isSealed)).setCell ⟨B, 3, none⟩ (.int .i64 t.to)) B t ∧ wr.heap.size ≤ B ∧
      Below wr.heap.size wr ((((W4.setCell ⟨B, 0, none⟩ (.int .i64 t.kind)).setCell ⟨B, 1, none⟩ v).setCell ⟨B, 2, none⟩ (.bool t.isSealed)).setCell ⟨B, 3, none⟩ (.int .i64 t.to)) := by
  have hh := Held.step (h0.below hb) h1 h2 h3
  have hb4 : Below wr.heap.size wr W4 := hb.trans (h2.mono hb.size)
  have hw4 := hw.trans (hb4.mono hw.size)
  refine ⟨boxed_set (Nat.le_trans hw.size hB0) hw4 hB t hh, hB0, ?_⟩
  exact (((hb4.setCell (p := ⟨B, 0, none⟩) hB0 _).setCell (p := ⟨B, 1, none⟩) hB0 _).setCell (p := ⟨B, 2, none⟩) hB0 _).setCell (p := ⟨B, 3, none⟩) hB0 _
end Go.Proofs.Ytaoagaokocnehaa
