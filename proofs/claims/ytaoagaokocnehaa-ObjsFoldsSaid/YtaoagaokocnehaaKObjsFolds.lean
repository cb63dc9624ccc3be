/-
  Layer 4, ObjsFolds: whatever the state and the operations, the law returns true, and the arguments read as they did. No condition.
-/
import Derived.Deep.DeepCutAuto
import Derived.Deep.RegionLaw
import Derived.Deep.AppendLies
import Derived.Test.YtaoagaokocnehaaRows
import Derived.WalkKit
import Derived.ProofKit
import Derived.OpenShut
import Derived.ShutString
import Derived.ChangeOld
import Derived.Below
import Derived.Test.YtaoagaokocnehaaKa
import Derived.Test.YtaoagaokocnehaaKd
import Derived.Test.YtaoagaokocnehaaKf
import Derived.Test.YtaoagaokocnehaaKg
namespace Go.Proofs.Ytaoagaokocnehaa
set_option linter.unusedVariables false
set_option maxRecDepth 100000
set_option linter.unusedSimpArgs false
open Go.RowKit

/-- v reads as L; it is what came in, or a row of the program's own. -/
def Held (w wr : World) (v : Value) (L : List Int) : Prop := Rd wr v L ∧ ((∃ L0, Rd w v L0) ∨ Own wr 3 1 v L.length (ints L))
theorem Held.below {w wr W : World} {v : Value} {L : List Int} (h : Held w wr v L) (hB : Below wr.heap.size wr W) : Held w W v L :=
  ⟨h.1.below hB (Nat.le_refl _), h.2.imp id fun h2 => own_keeps h2 (Keeps.ofBelow (F := fun _ => False) hB) (by simp)⟩
theorem Held.other {w wr W : World} {v : Value} {L : List Int} {B : Nat} {cs : Array Value} (h : Held w wr v L) (hw : Below w.heap.size w wr) (hB : Blk wr B cs 24) (hge : w.heap.size ≤ B) (hk : Keeps (fun k => k = B) wr W) : Held w W v L := by
  rcases h.2 with ⟨L0, h0⟩ | h2
  · have e := rd_inj h.1 (h0.below hw (Nat.le_refl _))
    have hW := hw.trans (hk.below (B := w.heap.size) (by rintro k rfl; exact hge) hw.size)
    exact ⟨e ▸ h0.below hW (Nat.le_refl _), .inl ⟨L0, h0⟩⟩
  · have h3 := own_keeps h2 hk fun q hq e => own_blk_ne h2 hB (by decide) (e ▸ hq)
    exact ⟨own_rd h3, .inr h3⟩
theorem Held.step {w W W' : World} {v0 v : Value} {L0 L : List Int} (h : Held w W v0 L0) (h1 : Rd W' v L) (h2 : Below W.heap.size W W') (h3 : v = v0 ∨ (Own W' 3 1 v L.length (ints L) ∧ Fresh W.heap.size v)) : Held w W' v L := by
  rcases h3 with rfl | h3
  · have e := rd_inj h1 (h.below h2).1
    rw [e]
    exact h.below h2
  · exact ⟨h1, .inr h3.1⟩

/-- A box that holds a state. -/
def Boxed (w wr : World) (B : Nat) (s : St) : Prop := w.heap.size ≤ B ∧ Below w.heap.size w wr ∧ ∃ vl, Blk wr B #[.int .i64 s.kind, vl, .bool s.isSealed, .int .i64 s.to] 24 ∧ Held w wr vl s.L
theorem Boxed.below {w wr W : World} {B : Nat} {s : St} (h : Boxed w wr B s) (hB : Below wr.heap.size wr W) : Boxed w W B s := by
  obtain ⟨h1, h2, vl, h3, h4⟩ := h
  exact ⟨h1, h2.trans (hB.mono h2.size), vl, h3.below hB h3.lt, h4.below hB⟩
/-- A box gets another box's state. -/
theorem boxed_set {w wr : World} {B : Nat} {v1 v2 v3 v4 vl : Value} (h1 : w.heap.size ≤ B) (h2 : Below w.heap.size w wr) (h3 : Blk wr B #[v1, v2, v3, v4] 24) (s : St) (h4 : Held w wr vl s.L) :
    Boxed w ((((wr.setCell ⟨B, 0, none⟩ (.int .i64 s.kind)).setCell ⟨B, 1, none⟩ vl).setCell ⟨B, 2, none⟩ (.bool s.isSealed)).setCell ⟨B, 3, none⟩ (.int .i64 s.to)) B s := by
  have hk : Keeps (fun k => k = B) wr ((((wr.setCell ⟨B, 0, none⟩ (.int .i64 s.kind)).setCell ⟨B, 1, none⟩ vl).setCell ⟨B, 2, none⟩ (.bool s.isSealed)).setCell ⟨B, 3, none⟩ (.int .i64 s.to)) :=
    ((((Keeps.refl (fun k => k = B) wr).set B 0 (.inl rfl) _).set B 1 (.inl rfl) _).set B 2 (.inl rfl) _).set B 3 (.inl rfl) _
  exact ⟨h1, h2.trans (hk.below (by rintro k rfl; exact h1) h2.size), vl, (((h3.set 0 _).set 1 _).set 2 _).set 3 _, h4.other h2 h3 h1 hk⟩
end Go.Proofs.Ytaoagaokocnehaa
/- Boxes of states: opened, assigned; what a region leaves that steps a box into a new one. -/
namespace Go.Proofs.Ytaoagaokocnehaa
set_option linter.unusedVariables false
set_option maxRecDepth 100000
set_option linter.unusedSimpArgs false
open Go.RowKit

theorem Boxed.open {w wr : World} {B : Nat} {s : St} (h : Boxed w wr B s) : ∃ a c, (wr.cell? ⟨B, 0, none⟩ = some (.int .i64 s.kind) ∧ wr.cell? ⟨B, 1, none⟩ = some (.slice a s.L.length c) ∧ wr.cell? ⟨B, 2, none⟩ = some (.bool s.isSealed) ∧ wr.cell? ⟨B, 3, none⟩ = some (.int .i64 s.to)) ∧
    (wr.frozen? ⟨B, 0, none⟩ = false ∧ wr.frozen? ⟨B, 1, none⟩ = false ∧ wr.frozen? ⟨B, 2, none⟩ = false ∧ wr.frozen? ⟨B, 3, none⟩ = false) ∧ B < wr.heap.size ∧ Held w wr (.slice a s.L.length c) s.L := by
  obtain ⟨h1, h2, vl, h3, h4⟩ := h
  obtain ⟨a, c, rfl, _⟩ := id h4.1
  exact ⟨a, c, ⟨h3.cell 0, h3.cell 1, h3.cell 2, h3.cell 3⟩, ⟨h3.frozen 0, h3.frozen 1, h3.frozen 2, h3.frozen 3⟩, h3.lt, h4⟩
/-- B = N. -/
theorem Boxed.assign {w wr : World} {B N : Nat} {s t : St} (hB : Boxed w wr B s) (hN : Boxed w wr N t) {v : Value} (hv : wr.cell? ⟨N, 1, none⟩ = some v) :
    Boxed w ((((wr.setCell ⟨B, 0, none⟩ (.int .i64 t.kind)).setCell ⟨B, 1, none⟩ v).setCell ⟨B, 2, none⟩ (.bool t.isSealed)).setCell ⟨B, 3, none⟩ (.int .i64 t.to)) B t := by
  obtain ⟨h1, h2, vl, h3, h4⟩ := hB
  obtain ⟨n1, n2, vn, n3, n4⟩ := hN
  have e : v = vn := by
    have := n3.cell 1
    rw [hv] at this
    simpa using this
  subst e
  exact boxed_set h1 h2 h3 t n4
/-- .. and another box. -/
theorem Boxed.aside {w wr : World} {B D : Nat} {s t : St} (hD : Boxed w wr D t) (hB : Boxed w wr B s) (hne : D ≠ B) (v1 v2 v3 v4 : Value) :
    Boxed w ((((wr.setCell ⟨B, 0, none⟩ v1).setCell ⟨B, 1, none⟩ v2).setCell ⟨B, 2, none⟩ v3).setCell ⟨B, 3, none⟩ v4) D t := by
  obtain ⟨h1, h2, vl, h3, h4⟩ := hB
  obtain ⟨n1, n2, vn, n3, n4⟩ := hD
  have hk : Keeps (fun k => k = B) wr ((((wr.setCell ⟨B, 0, none⟩ v1).setCell ⟨B, 1, none⟩ v2).setCell ⟨B, 2, none⟩ v3).setCell ⟨B, 3, none⟩ v4) :=
    ((((Keeps.refl (fun k => k = B) wr).set B 0 (.inl rfl) _).set B 1 (.inl rfl) _).set B 2 (.inl rfl) _).set B 3 (.inl rfl) _
  exact ⟨n1, n2.trans (hk.below (by rintro k rfl; exact h1) n2.size), vn, n3.keeps hk hne, n4.other n2 h3 h1 hk⟩
/-- Two boxes get two other ones' states. -/
theorem Boxed.assign2 {w wr : World} {B C N M : Nat} {s s' t t' : St} (hB : Boxed w wr B s) (hC : Boxed w wr C s') (hN : Boxed w wr N t) (hM : Boxed w wr M t') {v v' : Value} (hv : wr.cell? ⟨N, 1, none⟩ = some v) (hv' : wr.cell? ⟨M, 1, none⟩ = some v') (hBC : B ≠ C) (hMB : M ≠ B) :
    Boxed w ((((((((wr.setCell ⟨B, 0, none⟩ (.int .i64 t.kind)).setCell ⟨B, 1, none⟩ v).setCell ⟨B, 2, none⟩ (.bool t.isSealed)).setCell ⟨B, 3, none⟩ (.int .i64 t.to)).setCell ⟨C, 0, none⟩ (.int .i64 t'.kind)).setCell ⟨C, 1, none⟩ v').setCell ⟨C, 2, none⟩ (.bool t'.isSealed)).setCell ⟨C, 3, none⟩ (.int .i64 t'.to)) B t ∧
    Boxed w ((((((((wr.setCell ⟨B, 0, none⟩ (.int .i64 t.kind)).setCell ⟨B, 1, none⟩ v).setCell ⟨B, 2, none⟩ (.bool t.isSealed)).setCell ⟨B, 3, none⟩ (.int .i64 t.to)).setCell ⟨C, 0, none⟩ (.int .i64 t'.kind)).setCell ⟨C, 1, none⟩ v').setCell ⟨C, 2, none⟩ (.bool t'.isSealed)).setCell ⟨C, 3, none⟩ (.int .i64 t'.to)) C t' := by
  have h1 := Boxed.assign hB hN hv
  have h2 := Boxed.aside hC hB (Ne.symm hBC) (.int .i64 t.kind) v (.bool t.isSealed) (.int .i64 t.to)
  have h3 := Boxed.aside hM hB hMB (.int .i64 t.kind) v (.bool t.isSealed) (.int .i64 t.to)
  refine ⟨Boxed.aside h1 h2 hBC _ _ _ _, Boxed.assign h2 h3 ?_⟩
  obtain ⟨_, _, vM, hb, _⟩ := hM
  have hk : Keeps (fun k => k = B) wr ((((wr.setCell ⟨B, 0, none⟩ (.int .i64 t.kind)).setCell ⟨B, 1, none⟩ v).setCell ⟨B, 2, none⟩ (.bool t.isSealed)).setCell ⟨B, 3, none⟩ (.int .i64 t.to)) :=
    ((((Keeps.refl (fun k => k = B) wr).set B 0 (.inl rfl) _).set B 1 (.inl rfl) _).set B 2 (.inl rfl) _).set B 3 (.inl rfl) _
  have e : v' = vM := by
    have := hb.cell 1
    rw [hv'] at this
    simpa using this
  rw [e]
  exact (hb.keeps hk hMB).cell 1
/-- What comes in, boxed. -/
theorem boxed_in {w : World} {v : Value} (s : St) (hx : Rd w v s.L) : Boxed w (w.alloc (.cells #[.int .i64 s.kind, v, .bool s.isSealed, .int .i64 s.to] 24)) w.heap.size s :=
  ⟨Nat.le_refl _, (Below.refl _ w).alloc (Nat.le_refl _) _, v, Blk.new _ _ _, hx.alloc _, .inl ⟨_, hx⟩⟩
/-- A new box with a told state. -/
theorem boxed_new {w wr W W4 : World} {v0 v : Value} {s t : St} (hw : Below w.heap.size w wr) (hb : Below wr.heap.size wr W) (h0 : Held w wr v0 s.L) (h1 : Rd W4 v t.L) (h2 : Below W.heap.size W W4) (h3 : v = v0 ∨ (Own W4 3 1 v t.L.length (ints t.L) ∧ Fresh W.heap.size v)) :
    Boxed w (W4.alloc (.cells #[.int .i64 t.kind, v, .bool t.isSealed, .int .i64 t.to] 24)) W4.heap.size t ∧ wr.heap.size ≤ W4.heap.size ∧ Below wr.heap.size wr (W4.alloc (.cells #[.int .i64 t.kind, v, .bool t.isSealed, .int .i64 t.to] 24)) := by
  have hh := Held.step (h0.below hb) h1 h2 h3
  have hb4 : Below wr.heap.size wr W4 := hb.trans (h2.mono hb.size)
  have hw4 := hw.trans (hb4.mono hw.size)
  exact ⟨⟨hw4.size, hw4.alloc hw4.size _, v, Blk.new _ _ _, hh.below ((Below.refl _ _).alloc (Nat.le_refl _) _)⟩, hb4.size, hb4.alloc hb4.size _⟩
/-- .. in a box that stood ahead of the call. -/
theorem boxed_new' {w wr W W4 : World} {v0 v : Value} {s t : St} {B : Nat} {v1 v2 v3 v4 : Value} (hw : Below w.heap.size w wr) (hb : Below wr.heap.size wr W) (h0 : Held w wr v0 s.L) (h1 : Rd W4 v t.L) (h2 : Below W.heap.size W W4) (h3 : v = v0 ∨ (Own W4 3 1 v t.L.length (ints t.L) ∧ Fresh W.heap.size v))
    (hB : Blk W4 B #[v1, v2, v3, v4] 24) (hB0 : wr.heap.size ≤ B) :
    Boxed w ((((W4.setCell ⟨B, 0, none⟩ (.int .i64 t.kind)).setCell ⟨B, 1, none⟩ v).setCell ⟨B, 2, none⟩ (.bool t.isSealed)).setCell ⟨B, 3, none⟩ (.int .i64 t.to)) B t ∧ wr.heap.size ≤ B ∧
      Below wr.heap.size wr ((((W4.setCell ⟨B, 0, none⟩ (.int .i64 t.kind)).setCell ⟨B, 1, none⟩ v).setCell ⟨B, 2, none⟩ (.bool t.isSealed)).setCell ⟨B, 3, none⟩ (.int .i64 t.to)) := by
  have hh := Held.step (h0.below hb) h1 h2 h3
  have hb4 : Below wr.heap.size wr W4 := hb.trans (h2.mono hb.size)
  have hw4 := hw.trans (hb4.mono hw.size)
  refine ⟨boxed_set (Nat.le_trans hw.size hB0) hw4 hB t hh, hB0, ?_⟩
  exact (((hb4.setCell (p := ⟨B, 0, none⟩) hB0 _).setCell (p := ⟨B, 1, none⟩) hB0 _).setCell (p := ⟨B, 2, none⟩) hB0 _).setCell (p := ⟨B, 3, none⟩) hB0 _
end Go.Proofs.Ytaoagaokocnehaa
/- A state behind operations, one behind the other: in plain Lean; what a walk of a fold knows at each round. -/
namespace Go.Proofs.Ytaoagaokocnehaa
set_option linter.unusedVariables false
set_option maxRecDepth 100000
set_option linter.unusedSimpArgs false
open Go.RowKit

def opL (f : Nat → Nat → Int) (k : Nat) : List Op3 := (List.range k).map fun i => ⟨f i 0, f i 1, f i 2⟩
theorem opL_length (f : Nat → Nat → Int) (k : Nat) : (opL f k).length = k := by simp [opL]
theorem opL_succ (f : Nat → Nat → Int) (k : Nat) : opL f (k + 1) = opL f k ++ [⟨f k 0, f k 1, f k 2⟩] := by simp [opL, List.range_succ]
theorem foldS_snoc : ∀ (l : List Op3) (s : St) (o : Op3), foldS s (l ++ [o]) = ((stepS (foldS s l).1 o).1, (foldS s l).2 ++ [(stepS (foldS s l).1 o).2])
  | [], s, o => rfl
  | p :: l, s, o => by
    have ih := foldS_snoc l (stepS s p).1 o
    simp only [List.cons_append, foldS, ih]
theorem foldS_length : ∀ (l : List Op3) (s : St), (foldS s l).2.length = l.length
  | [], s => rfl
  | p :: l, s => by simp [foldS, foldS_length l]
theorem may_128 {s : St} (h : mayB s = true) : s.L.length ≤ 128 := by
  rcases (mayB_iff.1 h).2 with ⟨_, h, _⟩ | ⟨_, h, _⟩ | ⟨_, h⟩ | ⟨_, h⟩
  · omega
  · omega
  · exact (pairsB_iff.1 h).2.2
  · exact (pairsB_iff.1 h).2.2
theorem step_300 {s : St} (o : Op3) (h : s.L.length ≤ 300) : (stepS s o).1.L.length ≤ 300 := by
  cases hm : mayB s
  · unfold stepS; rw [if_pos hm]; exact h
  · have := may_128 (step_stays o hm).1; omega
theorem fold_300 : ∀ (l : List Op3) (s : St), s.L.length ≤ 300 → (foldS s l).1.L.length ≤ 300
  | [], s, h => h
  | p :: l, s, h => fold_300 l _ (step_300 p h)

/-- v reads as L; it came in, or it is a row of the program's own, not that of vo. -/
def HeldS (w wr : World) (v : Value) (L : List Int) (vo : Value) : Prop := Rd wr v L ∧ ((∃ L0, Rd w v L0) ∨ (Own wr 3 1 v L.length (ints L) ∧ ∀ g, v.ownBlock = some g → vo.ownBlock ≠ some g))
/-- What a fold knows at a round's head: r the state and the answers so far. -/
def FoldRel (w : World) (r : St × List Int) (vo : Value) (wr : World) : Prop :=
  Below w.heap.size w wr ∧ Fresh w.heap.size vo ∧ Own wr 3 1 vo r.2.length (ints r.2) ∧ Blk wr (w.heap.size + 1) #[.int .i64 0, .slice none 0 0, .bool false, .int .i64 0] 24 ∧
    ∃ vl, Blk wr w.heap.size #[.int .i64 r.1.kind, vl, .bool r.1.isSealed, .int .i64 r.1.to] 24 ∧ HeldS w wr vl r.1.L vo
theorem FoldRel.open {w wr : World} {s : St} {l : List Int} {vo : Value} (h : FoldRel w (s, l) vo wr) : ∃ a c ao co, vo = .slice ao l.length co ∧
    (wr.cell? ⟨w.heap.size, 0, none⟩ = some (.int .i64 s.kind) ∧ wr.cell? ⟨w.heap.size, 1, none⟩ = some (.slice a s.L.length c) ∧ wr.cell? ⟨w.heap.size, 2, none⟩ = some (.bool s.isSealed) ∧ wr.cell? ⟨w.heap.size, 3, none⟩ = some (.int .i64 s.to)) ∧
    (wr.frozen? ⟨w.heap.size, 0, none⟩ = false ∧ wr.frozen? ⟨w.heap.size, 1, none⟩ = false ∧ wr.frozen? ⟨w.heap.size, 2, none⟩ = false ∧ wr.frozen? ⟨w.heap.size, 3, none⟩ = false) ∧ w.heap.size < wr.heap.size ∧
    Rd wr (.slice a s.L.length c) s.L ∧ HeldS w wr (.slice a s.L.length c) s.L vo := by
  obtain ⟨h1, h2, h3, h4, vl, h5, h6⟩ := h
  obtain ⟨a, c, rfl, _⟩ := id h6.1
  obtain ⟨ao, co, e, _⟩ := id (own_rd h3)
  exact ⟨a, c, ao, co, e, ⟨h5.cell 0, h5.cell 1, h5.cell 2, h5.cell 3⟩, ⟨h5.frozen 0, h5.frozen 1, h5.frozen 2, h5.frozen 3⟩, h5.lt, h6.1, h6⟩
theorem FoldRel.start {w : World} {v : Value} (s : St) (hx : Rd w v s.L) : FoldRel w (s, []) (.slice none 0 0) ((w.alloc (.cells #[.int .i64 s.kind, v, .bool s.isSealed, .int .i64 s.to] 24)).alloc (.cells #[.int .i64 0, .slice none 0 0, .bool false, .int .i64 0] 24)) := by
  have hb : Below w.heap.size w ((w.alloc (.cells #[.int .i64 s.kind, v, .bool s.isSealed, .int .i64 s.to] 24)).alloc (.cells #[.int .i64 0, .slice none 0 0, .bool false, .int .i64 0] 24)) := ((Below.refl _ w).alloc (Nat.le_refl _) _).alloc (by simp) _
  have b2 := Blk.new (w.alloc (.cells #[.int .i64 s.kind, v, .bool s.isSealed, .int .i64 s.to] 24)) #[.int .i64 0, .slice none 0 0, .bool false, .int .i64 0] 24
  simp only [World.size_alloc] at b2
  exact ⟨hb, fresh_none, own_nil _, b2, v, (Blk.new w _ _).alloc _, hx.below hb (Nat.le_refl _), .inl ⟨_, hx⟩⟩
/-- Behind a step, in a world that has a box more. -/
structure Mid (w : World) (t : St) (l : List Int) (vo v : Value) (W : World) : Prop where
  bel : Below w.heap.size w W
  fresh : Fresh w.heap.size vo
  own : Own W 3 1 vo l.length (ints l)
  res : Blk W (w.heap.size + 1) #[.int .i64 0, .slice none 0 0, .bool false, .int .i64 0] 24
  box : ∃ cs : Array Value, cs.size = 4 ∧ Blk W w.heap.size cs 24
  held : HeldS w W v t.L vo
theorem FoldRel.mid {w wr W1 w4 : World} {s : St} {l : List Int} {vo v0 v : Value} {t : St} (o : Obj) (h : FoldRel w (s, l) vo wr) (h0 : HeldS w wr v0 s.L vo) (hb : Below wr.heap.size wr W1) (h1 : Rd w4 v t.L) (h2 : Below W1.heap.size W1 w4) (h3 : v = v0 ∨ (Own w4 3 1 v t.L.length (ints t.L) ∧ Fresh W1.heap.size v)) :
    Mid w t l vo v (w4.alloc o) := by
  obtain ⟨g1, g2, g3, g4, vl, g5, g6⟩ := h
  have b4 : Below wr.heap.size wr w4 := hb.trans (h2.mono hb.size)
  have b5 := b4.alloc b4.size o
  have hw := g1.trans (b5.mono g1.size)
  have k5 : Keeps (fun _ => False) wr (w4.alloc o) := Keeps.ofBelow b5
  refine ⟨hw, g2, own_keeps g3 k5 (by simp), g4.below b5 g4.lt, ⟨_, rfl, g5.below b5 g5.lt⟩, ?_⟩
  have h1' := h1.alloc o
  rcases h3 with rfl | ⟨h3, h3'⟩
  · rcases h0.2 with ⟨L0, hL0⟩ | ⟨ho, hs⟩
    · exact ⟨h1', .inl ⟨L0, hL0⟩⟩
    · have ho' := own_keeps ho k5 (by simp)
      have e := rd_inj h1' (own_rd ho')
      rw [e]
      exact ⟨own_rd ho', .inr ⟨ho', hs⟩⟩
  · refine ⟨h1', .inr ⟨own_keeps h3 (Keeps.ofBelow (F := fun _ => False) ((Below.refl _ w4).alloc (Nat.le_refl _) o)) (by simp), fun g hg e => ?_⟩⟩
    have q1 := own_lt g3 e
    have q2 := h3' g hg
    have := hb.size
    omega
/-- The round's end. -/
theorem Mid.end {w W X : World} {t : St} {l : List Int} {vo v vo' : Value} {n : Int} (h : Mid w t l vo v W) (hk : Keeps (fun k => k = w.heap.size ∨ vo.ownBlock = some k) W X) (hB : Blk X w.heap.size #[.int .i64 t.kind, v, .bool t.isSealed, .int .i64 t.to] 24)
    (hO : Own X 3 1 vo' (l.length + 1) (ints l ++ [.int .i64 n])) (hat : ∀ g, vo'.ownBlock = some g → vo.ownBlock = some g ∨ W.heap.size ≤ g) : FoldRel w (t, l ++ [n]) vo' X := by
  obtain ⟨h1, h2, h3, h4, ⟨cs, _, h5⟩, h6⟩ := h
  have hX := h1.trans (hk.below (B := w.heap.size) (by rintro k (rfl | e); exact Nat.le_refl _; exact h2 k e) h1.size)
  have e : ints l ++ [Value.int .i64 n] = ints (l ++ [n]) := by simp [ints]
  rw [e] at hO
  have hlen : l.length + 1 = (l ++ [n]).length := by simp
  rw [hlen] at hO
  refine ⟨hX, fun g hg => ?_, hO, h4.keeps hk (by rintro (e | e); omega; exact own_blk_ne h3 h4 (by decide) e), v, hB, ?_⟩
  · rcases hat g hg with e | e
    · exact h2 g e
    · exact Nat.le_trans h1.size e
  · rcases h6.2 with ⟨L0, hL0⟩ | ⟨ho, hs⟩
    · have e := rd_inj h6.1 (hL0.below h1 (Nat.le_refl _))
      rw [HeldS, e]
      exact ⟨hL0.below hX (Nat.le_refl _), .inl ⟨L0, hL0⟩⟩
    · have ho' := own_keeps ho hk (by
        rintro b hb (rfl | e)
        · exact own_blk_ne ho h5 (by decide) hb
        · exact hs b hb e)
      refine ⟨own_rd ho', .inr ⟨ho', fun g hg e => ?_⟩⟩
      rcases hat g e with e | e
      · exact hs g hg e
      · have := own_lt ho hg; omega
def FoldP (w : World) (r : St × List Int) (e : Ending) (w' : World) : Prop :=
  ∃ vl vo, e = .returned (.tuple #[.agg #[.int .i64 r.1.kind, vl, .bool r.1.isSealed, .int .i64 r.1.to], vo]) ∧ Rd w' vl r.1.L ∧ Rd w' vo r.2 ∧ Below w.heap.size w w'
theorem FoldRel.told {w wr : World} {r : St × List Int} {vo vl : Value} (h : FoldRel w r vo wr) (h0 : HeldS w wr vl r.1.L vo) (v1 v2 v3 v4 : Value) :
    FoldP w r (.returned (.tuple #[.agg #[.int .i64 r.1.kind, vl, .bool r.1.isSealed, .int .i64 r.1.to], vo])) ((((wr.setCell ⟨w.heap.size + 1, 0, none⟩ v1).setCell ⟨w.heap.size + 1, 1, none⟩ v2).setCell ⟨w.heap.size + 1, 2, none⟩ v3).setCell ⟨w.heap.size + 1, 3, none⟩ v4) := by
  obtain ⟨h1, h2, h3, h4, _⟩ := h
  have hk : Keeps (fun k => k = w.heap.size + 1) wr ((((wr.setCell ⟨w.heap.size + 1, 0, none⟩ v1).setCell ⟨w.heap.size + 1, 1, none⟩ v2).setCell ⟨w.heap.size + 1, 2, none⟩ v3).setCell ⟨w.heap.size + 1, 3, none⟩ v4) :=
    ((((Keeps.refl (fun k => k = w.heap.size + 1) wr).set _ 0 (.inl rfl) _).set _ 1 (.inl rfl) _).set _ 2 (.inl rfl) _).set _ 3 (.inl rfl) _
  have hX := h1.trans (hk.below (B := w.heap.size) (by rintro k rfl; omega) h1.size)
  refine ⟨vl, vo, rfl, ?_, own_rd (own_keeps h3 hk fun g hg e => own_blk_ne h3 h4 (by decide) (e ▸ hg)), hX⟩
  rcases h0.2 with ⟨L0, hL0⟩ | ⟨ho, hs⟩
  · have e := rd_inj h0.1 (hL0.below h1 (Nat.le_refl _))
    rw [e]
    exact hL0.below hX (Nat.le_refl _)
  · exact own_rd (own_keeps ho hk fun g hg e => own_blk_ne ho h4 (by decide) (e ▸ hg))
end Go.Proofs.Ytaoagaokocnehaa
/- The document's Step beside a box for its state, in either order: what is left. -/
namespace Go.Proofs.Ytaoagaokocnehaa
set_option linter.unusedVariables false
set_option maxRecDepth 100000
set_option linter.unusedSimpArgs false
open Go.RowKit

structure StepT (W : World) (v0 : Value) (r : St × Int) (vn : Value) (g : Nat) (w' : World) : Prop where
  rd : Rd w' vn r.1.L
  bel : Below W.heap.size W w'
  box : Blk w' g #[.int .i64 0, .slice none 0 0, .bool false, .int .i64 0] 24
  new : W.heap.size ≤ g ∧ g < w'.heap.size
  own : vn = v0 ∨ ∀ k, vn.ownBlock = some k → W.heap.size ≤ k ∧ k < w'.heap.size ∧ k ≠ g
theorem StepT.one {W w4 : World} {v0 vn : Value} {r : St × Int} (h1 : Rd w4 vn r.1.L) (h2 : Below W.heap.size W w4) (h3 : vn = v0 ∨ ∀ k, vn.ownBlock = some k → W.heap.size ≤ k ∧ k < w4.heap.size) :
    StepT W v0 r vn w4.heap.size (w4.alloc (.cells #[.int .i64 0, .slice none 0 0, .bool false, .int .i64 0] 24)) :=
  ⟨h1.alloc _, h2.alloc h2.size _, Blk.new _ _ _, ⟨h2.size, by simp⟩, h3.imp id fun h k hk => ⟨(h k hk).1, by have := (h k hk).2; simp; omega, by have := (h k hk).2; omega⟩⟩
theorem StepT.two {W w4 : World} {v0 vn : Value} {r : St × Int} (h1 : Rd w4 vn r.1.L) (h2 : Below (W.alloc (.cells #[.int .i64 0, .slice none 0 0, .bool false, .int .i64 0] 24)).drew.heap.size (W.alloc (.cells #[.int .i64 0, .slice none 0 0, .bool false, .int .i64 0] 24)).drew w4)
    (h3 : vn = v0 ∨ ∀ k, vn.ownBlock = some k → (W.alloc (.cells #[.int .i64 0, .slice none 0 0, .bool false, .int .i64 0] 24)).drew.heap.size ≤ k ∧ k < w4.heap.size) : StepT W.drew v0 r vn W.heap.size w4 := by
  have b := (Blk.new W #[.int .i64 0, .slice none 0 0, .bool false, .int .i64 0] 24).drew.below h2 (by simp)
  have h4 : Below W.drew.heap.size W.drew (W.alloc (.cells #[.int .i64 0, .slice none 0 0, .bool false, .int .i64 0] 24)).drew := ((Below.refl _ W.drew).alloc (Nat.le_refl _) (.cells #[.int .i64 0, .slice none 0 0, .bool false, .int .i64 0] 24))
  exact ⟨h1, h4.trans (h2.mono (by simp)), b, ⟨Nat.le_refl _, b.lt⟩, h3.imp id fun h k hk => by have := h k hk; simp at this; exact ⟨by simp; omega, this.2, by omega⟩⟩
theorem rd_keeps' {F : Nat → Prop} {w w' : World} {v : Value} {xs : List Int} (h : Rd w v xs) (k : Keeps F w w') (hd : 0 < xs.length → ∀ b, v.ownBlock = some b → ¬ F b) : Rd w' v xs := by
  by_cases h0 : 0 < xs.length
  · exact h.keeps k (hd h0)
  · obtain ⟨a, c, rfl, h1, h2, h3⟩ := h
    exact ⟨a, c, rfl, h1, h2, fun hl => absurd hl h0⟩
theorem rd_len2 {w w' : World} {v : Value} {xs ys : List Int} (h : Rd w v xs) (h' : Rd w' v ys) : xs.length = ys.length := by
  obtain ⟨a, c, rfl, _⟩ := h
  obtain ⟨a', c', e, _⟩ := h'
  injection e
theorem rd_lt {w : World} {v : Value} {xs : List Int} (h : Rd w v xs) (h0 : 0 < xs.length) {k : Nat} (hk : v.ownBlock = some k) : k < w.heap.size := by
  obtain ⟨a, c, rfl, h1, h2, h3⟩ := h
  obtain ⟨b, o, rfl, hb, _⟩ := h3 h0
  simp only [Value.ownBlock, Option.some.injEq] at hk
  omega
end Go.Proofs.Ytaoagaokocnehaa
/- Layer 4, the document's answer: Fold. -/
namespace Go.Proofs.Ytaoagaokocnehaa
set_option linter.unusedVariables false
set_option maxRecDepth 100000
set_option linter.unusedSimpArgs false
open Go.RowKit
open Go.Proofs.YtaoagaokocnehaaW.PrintLast

/-- What the document's fold knows at a round's head. -/
structure RFold (w : World) (st : St) (l : List Int) (vs vo : Value) (wr : World) : Prop where
  below : Below w.heap.size w wr
  size : w.heap.size + 2 ≤ wr.heap.size
  box : Blk wr w.heap.size #[.int .i64 st.kind, vs, .bool st.isSealed, .int .i64 st.to] 24
  res : Blk wr (w.heap.size + 1) #[.int .i64 0, .slice none 0 0, .bool false, .int .i64 0] 24
  out : Own wr 3 1 vo l.length (ints l)
  fresh : ∀ k, vo.ownBlock = some k → w.heap.size + 2 ≤ k
  rd : Rd wr vs st.L
  own : 0 < st.L.length → ∀ k, vs.ownBlock = some k → (k < w.heap.size ∨ w.heap.size + 2 ≤ k) ∧ vo.ownBlock ≠ some k
theorem own_drew' {w : World} {e : TypeId} {s n : Nat} {v : Value} {xs : List Value} (h : Own w e s v n xs) : Own w.drew e s v n xs := h
theorem RFold.start {w : World} {v : Value} (s : St) (hx : Rd w v s.L) : RFold w s [] v (.slice none 0 0) ((w.alloc (.cells #[.int .i64 s.kind, v, .bool s.isSealed, .int .i64 s.to] 24)).alloc (.cells #[.int .i64 0, .slice none 0 0, .bool false, .int .i64 0] 24)) := by
  have hb : Below w.heap.size w ((w.alloc (.cells #[.int .i64 s.kind, v, .bool s.isSealed, .int .i64 s.to] 24)).alloc (.cells #[.int .i64 0, .slice none 0 0, .bool false, .int .i64 0] 24)) := ((Below.refl _ w).alloc (Nat.le_refl _) _).alloc (by simp) _
  have b2 := Blk.new (w.alloc (.cells #[.int .i64 s.kind, v, .bool s.isSealed, .int .i64 s.to] 24)) #[.int .i64 0, .slice none 0 0, .bool false, .int .i64 0] 24
  simp only [World.size_alloc] at b2
  exact ⟨hb, by simp, (Blk.new w _ _).alloc _, b2, own_nil _, fun k hk => by simp [Value.ownBlock] at hk, hx.below hb (Nat.le_refl _), fun h0 k hk => ⟨.inl (rd_lt hx h0 hk), by simp [Value.ownBlock]⟩⟩

theorem RFold.told {w wr : World} {st : St} {l : List Int} {vs vo : Value} (h : RFold w st l vs vo wr) (v1 v2 v3 v4 : Value) :
    FoldP w (st, l) (.returned (.tuple #[.agg #[.int .i64 st.kind, vs, .bool st.isSealed, .int .i64 st.to], vo])) ((((wr.setCell ⟨w.heap.size + 1, 0, none⟩ v1).setCell ⟨w.heap.size + 1, 1, none⟩ v2).setCell ⟨w.heap.size + 1, 2, none⟩ v3).setCell ⟨w.heap.size + 1, 3, none⟩ v4) := by
  have hk := res_keeps wr (w.heap.size + 1) v1 v2 v3 v4
  refine ⟨vs, vo, rfl, rd_keeps' h.rd hk (fun h0 j hj e => by have := (h.own h0 j hj).1; omega), own_rd (own_keeps h.out hk fun j hj e => by have := h.fresh j hj; omega), h.below.trans (hk.below (by rintro k rfl; omega) h.below.size)⟩

set_option maxRecDepth 100000 in
set_option maxHeartbeats 6400000 in
theorem r_fold {w : World} {vl : Value} (s : St) (a1 : Option Addr) (len1 cap1 : Nat) (f : Nat → Nat → Int) (hx : Rd w vl s.L) (hv : IsOps w a1 len1 f 3) (hl1 : len1 ≤ 1099511627776) :
    Calls Try.prog 18 #[.agg #[.int .i64 s.kind, vl, .bool s.isSealed, .int .i64 s.to], .slice a1 len1 cap1] w (FoldP w (foldS s (opL f len1))) := by
  obtain ⟨i0, hi, hz0, hz1, hz2⟩ := info_parts infoInt
  obtain ⟨ki, L, b, t⟩ := s
  simp only at hx ⊢
  have H0 := Lib.hid (RFold.start (w := w) (v := vl) ⟨ki, L, b, t⟩ hx)
  have HV := Lib.hid hv
  obtain ⟨a, c, rfl, _⟩ := hx
  clear hv
  go_enter Try.func18, Try.ntmps18
  go_wp2_with fail
  go_loopw [6, 7, 8, 9] (fun o i _ _ wr => ∃ (k : Nat) (vs : Value), k ≤ len1 ∧ i = .int .i64 k ∧ RFold w (foldS ⟨ki, L, b, t⟩ (opL f k)).1 (foldS ⟨ki, L, b, t⟩ (opL f k)).2 vs o wr) (fun _ i _ _ _ => len1 - (intOf i).toNat)
  case atStart => exact ⟨0, _, Nat.zero_le _, rfl, H0.out⟩
  case round =>
    obtain ⟨k, vs, hk, rfl, hrel⟩ := hrel
    clear H0
    have hll : (foldS ⟨ki, L, b, t⟩ (opL f k)).2.length = k := by rw [foldS_length, opL_length]
    by_cases hkl : k < len1
    · obtain ⟨bb, o, rfl, hb, hcells⟩ := HV.out (by omega)
      have hc0 := hcells k 0 hkl (by omega)
      have hc1 := hcells k 1 hkl (by omega)
      have hc2 := hcells k 2 hkl (by omega)
      rw [Nat.add_zero] at hc0
      rw [← hrel.below.cell (p := ⟨bb, o + k * 3, none⟩) hb] at hc0
      rw [← hrel.below.cell (p := ⟨bb, o + k * 3 + 1, none⟩) hb] at hc1
      rw [← hrel.below.cell (p := ⟨bb, o + k * 3 + 2, none⟩) hb] at hc2
      have hbw : bb < wr.heap.size := Nat.lt_of_lt_of_le hb hrel.below.size
      have hend : foldS ⟨ki, L, b, t⟩ (opL f (k + 1)) = ((stepS (foldS ⟨ki, L, b, t⟩ (opL f k)).1 ⟨f k 0, f k 1, f k 2⟩).1, (foldS ⟨ki, L, b, t⟩ (opL f k)).2 ++ [(stepS (foldS ⟨ki, L, b, t⟩ (opL f k)).1 ⟨f k 0, f k 1, f k 2⟩).2]) := by
        rw [opL_succ, foldS_snoc]
      have HS := fun W v (hx : Rd W v (foldS ⟨ki, L, b, t⟩ (opL f k)).1.L) => Lib.hid (r_step (w := W) (vl := v) (foldS ⟨ki, L, b, t⟩ (opL f k)).1 ⟨f k 0, f k 1, f k 2⟩ hx)
      have HEND := Lib.hid hend
      clear hend hcells
      generalize foldS ⟨ki, L, b, t⟩ (opL f k) = r at *
      obtain ⟨⟨rk, rL, rb, rt⟩, ol⟩ := r
      simp only at HS HEND hll hrel
      generalize hr2 : stepS ⟨rk, rL, rb, rt⟩ ⟨f k 0, f k 1, f k 2⟩ = r2 at *
      clear hr2
      obtain ⟨⟨k', L', b', t'⟩, n'⟩ := r2
      simp only at HEND
      generalize f k 0 = co at *
      generalize f k 1 = oa at *
      generalize f k 2 = ob at *
      obtain ⟨aS, cS, hvs, -⟩ := id hrel.rd
      subst hvs
      obtain ⟨ao, co', hvo, -⟩ := id (own_rd hrel.out)
      subst hvo
      have q0 := hrel.box.cell 0
      have q1 := hrel.box.cell 1
      have q2 := hrel.box.cell 2
      have q3 := hrel.box.cell 3
      simp at q0 q1 q2 q3
      have i1 : (0 : Int) ≤ (k : Int) := by omega
      have i2 : (k : Int) < (len1 : Int) := by omega
      have d0 : decide ((k : Int) < len1) = true := decide_eq_true i2
      have i64k : IntKind.i64.wrap ((k : Int) + 1) = (k : Int) + 1 := IntWalk.i64_in _ (by omega)
      have hrdr : Rd wr (.slice aS rL.length cS) rL := hrel.rd
      have hbox := hrel.box
      have hsz := hrel.size
      have HR := Lib.hid hrel
      clear hrel
      go_wp2_with fail
      refine start_ (n := 12) (S := fun w' => w'.cell? ⟨w.heap.size, 0, none⟩ = some (.int .i64 rk) ∧ w'.cell? ⟨w.heap.size, 1, none⟩ = some (.slice aS rL.length cS) ∧ w'.cell? ⟨w.heap.size, 2, none⟩ = some (.bool rb) ∧ w'.cell? ⟨w.heap.size, 3, none⟩ = some (.int .i64 rt) ∧ w'.cell? ⟨bb, o + k * 3, none⟩ = some (.int .i64 co) ∧ w'.cell? ⟨bb, o + k * 3 + 1, none⟩ = some (.int .i64 oa) ∧ w'.cell? ⟨bb, o + k * 3 + 2, none⟩ = some (.int .i64 ob)) (ds := [10]) #[false, false, false, false, false, false, false, false, false, false, false, false] (by kernel_rfl) rfl rfl ⟨q0, q1, q2, q3, hc0, hc1, hc2⟩ (fun hHeld => ?_)
      refine pure_ (i := 1) (N := some 18) (v := ?_) (a' := ?_) #[false, true, false, false, false, false, false, false, false, false, false, false] rfl rfl (by kernel_rfl) (fun _ _ _ h => h) (Or.inl ⟨by rfl, ?_⟩) ?_ ?_
      rotate_left
      · intro w'
        go_simp
        with_reducible rfl
      rotate_left
      · simp only [Act.put, List.setIfInBounds_toArray, List.set_cons_zero, List.set_cons_succ, i64_w, i32_w]
        rfl
      refine pure_ (i := 2) (N := some 19) (v := ?_) (a' := ?_) #[false, true, true, false, false, false, false, false, false, false, false, false] rfl rfl (by kernel_rfl) (fun _ _ _ h => h) (Or.inl ⟨by rfl, ?_⟩) ?_ ?_
      rotate_left
      · intro w'
        go_simp
        with_reducible rfl
      rotate_left
      · simp only [Act.put, List.setIfInBounds_toArray, List.set_cons_zero, List.set_cons_succ, i64_w, i32_w]
        rfl
      refine pure_ (i := 3) (N := some 20) (v := ?_) (a' := ?_) #[false, true, true, true, false, false, false, false, false, false, false, false] rfl rfl (by kernel_rfl) (fun _ _ _ h => h) (Or.inl ⟨by rfl, ?_⟩) ?_ ?_
      rotate_left
      · intro w'
        go_simp
        with_reducible rfl
      rotate_left
      · simp only [Act.put, List.setIfInBounds_toArray, List.set_cons_zero, List.set_cons_succ, i64_w, i32_w]
        rfl
      refine take_ (i := 0) (N := some 17) (v := ?_) (a' := ?_) #[true, true, true, true, false, false, false, false, false, false, false, false] rfl rfl (by kernel_rfl) (fun _ _ _ h => h) (Or.inl ⟨by rfl, ?_⟩) hHeld ?_ ?_
      rotate_left
      · rintro w' ⟨s0, s1, s2, s3, s4, s5, s6⟩
        go_simp
        with_reducible rfl
      rotate_left
      · simp only [Act.put, List.setIfInBounds_toArray, List.set_cons_zero, List.set_cons_succ, i64_w, i32_w]
        rfl
      refine take_ (i := 4) (N := some 21) (v := ?_) (a' := ?_) #[true, true, true, true, true, false, false, false, false, false, false, false] rfl rfl (by kernel_rfl) (fun _ _ _ h => h) (Or.inl ⟨by rfl, ?_⟩) hHeld ?_ ?_
      rotate_left
      · rintro w' ⟨s0, s1, s2, s3, s4, s5, s6⟩
        go_simp
        with_reducible rfl
      rotate_left
      · simp only [Act.put, List.setIfInBounds_toArray, List.set_cons_zero, List.set_cons_succ, i64_w, i32_w]
        rfl
      refine join_ (σ := Value × Nat) 2 #[true, true, true, true, true, true, true, true, true, true, false, false] (fun s => [(22, .tuple #[.agg #[.int .i64 k', s.1, .bool b', .int .i64 t'], .int .i64 n']), (8, .pointer (some ⟨s.2, 0, none⟩)), (16, .tuple #[.agg #[.int .i64 k', s.1, .bool b', .int .i64 t'], .int .i64 n']), (23, .agg #[.int .i64 k', s.1, .bool b', .int .i64 t']), (24, .int .i64 n')]) (fun s w' => StepT wr.drew (.slice aS rL.length cS) (⟨⟨k', L', b', t'⟩, n'⟩ : St × Int) s.1 s.2 w') ?_ ?_
      rotate_left
      · intro hCont
        refine two_ (i := 5) (j := 9) (Ni := some 22) (Nj := some 8) #[true, true, true, true, true, true, false, false, false, false, false, false] #[true, true, true, true, true, false, false, false, false, true, false, false] rfl rfl rfl rfl (by kernel_rfl) (by decide) (by decide) (fun K hK => ?_) (fun K hK => ?_)
        · skip
          refine goes_ Try.func14 (by kernel_rfl) rfl #[.agg #[.int .i64 rk, .slice aS rL.length cS, .bool rb, .int .i64 rt], .agg #[.int .i64 co, .int .i64 oa, .int .i64 ob]] (by rfl) rfl rfl (by simp only [List.map_toArray, List.map_cons, List.map_nil]; rfl) ?_
          with_reducible refine ((HS wr.drew _ hrdr.drew).out).mono ?_
          rintro e w4 ⟨vn, rfl, hrd4, hb4, ho4⟩
          refine ⟨_, rfl, ?_⟩
          have K4 := Keeps.ofBelow (F := fun _ => False) hb4
          try clear hHeld
          refine hK.out _ _ ⟨(K4.cellSome (fun h => h) q0), (K4.cellSome (fun h => h) q1), (K4.cellSome (fun h => h) q2), (K4.cellSome (fun h => h) q3), (K4.cellSome (fun h => h) hc0), (K4.cellSome (fun h => h) hc1), (K4.cellSome (fun h => h) hc2)⟩ (fun hHeld => ?_)
          clear hK K
          refine norm_ (a' := ?_) ?_ ?_
          rotate_left
          · show Act.put _ (some 22) _ = _
            simp only [Act.put, List.setIfInBounds_toArray, List.set_cons_zero, List.set_cons_succ, i64_w, i32_w]
            rfl
          refine pure_ (i := 6) (N := some 16) (v := ?_) (a' := ?_) #[true, true, true, true, true, true, true, false, false, false, false, false] rfl rfl (by kernel_rfl) (fun _ _ _ h => h) (Or.inl ⟨by rfl, ?_⟩) ?_ ?_
          rotate_left
          · intro w'
            go_simp
            with_reducible rfl
          rotate_left
          · simp only [Act.put, List.setIfInBounds_toArray, List.set_cons_zero, List.set_cons_succ, i64_w, i32_w]
            rfl
          refine pure_ (i := 7) (N := some 23) (v := ?_) (a' := ?_) #[true, true, true, true, true, true, true, true, false, false, false, false] rfl rfl (by kernel_rfl) (fun _ _ _ h => h) (Or.inl ⟨by rfl, ?_⟩) ?_ ?_
          rotate_left
          · intro w'
            go_simp
            with_reducible rfl
          rotate_left
          · simp only [Act.put, List.setIfInBounds_toArray, List.set_cons_zero, List.set_cons_succ, i64_w, i32_w]
            rfl
          refine pure_ (i := 8) (N := some 24) (v := ?_) (a' := ?_) #[true, true, true, true, true, true, true, true, true, false, false, false] rfl rfl (by kernel_rfl) (fun _ _ _ h => h) (Or.inl ⟨by rfl, ?_⟩) ?_ ?_
          rotate_left
          · intro w'
            go_simp
            with_reducible rfl
          rotate_left
          · simp only [Act.put, List.setIfInBounds_toArray, List.set_cons_zero, List.set_cons_succ, i64_w, i32_w]
            rfl
          refine one_ (i := 9) (N := some 8) #[true, true, true, true, true, true, true, true, true, true, false, false] rfl rfl (by kernel_rfl) (by decide) (fun K hK => ?_)
          refine value_ (w1 := ?_) (v := ?_) (by rfl) rfl ?_ ?_
          rotate_left 2
          · go_simp
            constructor
            · rfl
            · rfl
          have Ka : Keeps (fun _ => False) w4 (w4.alloc (.cells #[.int .i64 0, .slice none 0 0, .bool false, .int .i64 0] 24)) := ((Keeps.refl _ _).alloc _)
          try clear hHeld
          refine hK.out _ _ ⟨(Ka.cellSome (fun h => h) (K4.cellSome (fun h => h) q0)), (Ka.cellSome (fun h => h) (K4.cellSome (fun h => h) q1)), (Ka.cellSome (fun h => h) (K4.cellSome (fun h => h) q2)), (Ka.cellSome (fun h => h) (K4.cellSome (fun h => h) q3)), (Ka.cellSome (fun h => h) (K4.cellSome (fun h => h) hc0)), (Ka.cellSome (fun h => h) (K4.cellSome (fun h => h) hc1)), (Ka.cellSome (fun h => h) (K4.cellSome (fun h => h) hc2))⟩ (fun hHeld => ?_)
          clear hK K
          refine norm_ (a' := ?_) ?_ ?_
          rotate_left
          · show Act.put _ (some 8) _ = _
            simp only [Act.put, List.setIfInBounds_toArray, List.set_cons_zero, List.set_cons_succ, i64_w, i32_w]
            rfl
          exact norm_ (by simp only [putAll, Act.put, List.setIfInBounds_toArray, List.set_cons_zero, List.set_cons_succ]) (hCont ⟨vn, w4.heap.size⟩ _ (StepT.one (r := (⟨⟨k', L', b', t'⟩, n'⟩ : St × Int)) hrd4 hb4 ho4))
        · skip
          refine value_ (w1 := ?_) (v := ?_) (by rfl) rfl ?_ ?_
          rotate_left 2
          · go_simp
            constructor
            · rfl
            · rfl
          have Ka : Keeps (fun _ => False) wr (wr.alloc (.cells #[.int .i64 0, .slice none 0 0, .bool false, .int .i64 0] 24)).drew := ((Keeps.refl _ _).alloc _).drew
          try clear hHeld
          refine hK.out _ _ ⟨(Ka.cellSome (fun h => h) q0), (Ka.cellSome (fun h => h) q1), (Ka.cellSome (fun h => h) q2), (Ka.cellSome (fun h => h) q3), (Ka.cellSome (fun h => h) hc0), (Ka.cellSome (fun h => h) hc1), (Ka.cellSome (fun h => h) hc2)⟩ (fun hHeld => ?_)
          clear hK K
          refine norm_ (a' := ?_) ?_ ?_
          rotate_left
          · show Act.put _ (some 8) _ = _
            simp only [Act.put, List.setIfInBounds_toArray, List.set_cons_zero, List.set_cons_succ, i64_w, i32_w]
            rfl
          refine one_ (i := 5) (N := some 22) #[true, true, true, true, true, true, false, false, false, true, false, false] rfl rfl (by kernel_rfl) (by decide) (fun K hK => ?_)
          refine goes_ Try.func14 (by kernel_rfl) rfl #[.agg #[.int .i64 rk, .slice aS rL.length cS, .bool rb, .int .i64 rt], .agg #[.int .i64 co, .int .i64 oa, .int .i64 ob]] (by rfl) rfl rfl (by simp only [List.map_toArray, List.map_cons, List.map_nil]; rfl) ?_
          with_reducible refine ((HS (wr.alloc (.cells #[.int .i64 0, .slice none 0 0, .bool false, .int .i64 0] 24)).drew _ (hrdr.alloc (.cells #[.int .i64 0, .slice none 0 0, .bool false, .int .i64 0] 24)).drew).out).mono ?_
          rintro e w4 ⟨vn, rfl, hrd4, hb4, ho4⟩
          refine ⟨_, rfl, ?_⟩
          have K4 := Keeps.ofBelow (F := fun _ => False) hb4
          try clear hHeld
          refine hK.out _ _ ⟨(K4.cellSome (fun h => h) (Ka.cellSome (fun h => h) q0)), (K4.cellSome (fun h => h) (Ka.cellSome (fun h => h) q1)), (K4.cellSome (fun h => h) (Ka.cellSome (fun h => h) q2)), (K4.cellSome (fun h => h) (Ka.cellSome (fun h => h) q3)), (K4.cellSome (fun h => h) (Ka.cellSome (fun h => h) hc0)), (K4.cellSome (fun h => h) (Ka.cellSome (fun h => h) hc1)), (K4.cellSome (fun h => h) (Ka.cellSome (fun h => h) hc2))⟩ (fun hHeld => ?_)
          clear hK K
          refine norm_ (a' := ?_) ?_ ?_
          rotate_left
          · show Act.put _ (some 22) _ = _
            simp only [Act.put, List.setIfInBounds_toArray, List.set_cons_zero, List.set_cons_succ, i64_w, i32_w]
            rfl
          refine pure_ (i := 6) (N := some 16) (v := ?_) (a' := ?_) #[true, true, true, true, true, true, true, false, false, true, false, false] rfl rfl (by kernel_rfl) (fun _ _ _ h => h) (Or.inl ⟨by rfl, ?_⟩) ?_ ?_
          rotate_left
          · intro w'
            go_simp
            with_reducible rfl
          rotate_left
          · simp only [Act.put, List.setIfInBounds_toArray, List.set_cons_zero, List.set_cons_succ, i64_w, i32_w]
            rfl
          refine pure_ (i := 7) (N := some 23) (v := ?_) (a' := ?_) #[true, true, true, true, true, true, true, true, false, true, false, false] rfl rfl (by kernel_rfl) (fun _ _ _ h => h) (Or.inl ⟨by rfl, ?_⟩) ?_ ?_
          rotate_left
          · intro w'
            go_simp
            with_reducible rfl
          rotate_left
          · simp only [Act.put, List.setIfInBounds_toArray, List.set_cons_zero, List.set_cons_succ, i64_w, i32_w]
            rfl
          refine pure_ (i := 8) (N := some 24) (v := ?_) (a' := ?_) #[true, true, true, true, true, true, true, true, true, true, false, false] rfl rfl (by kernel_rfl) (fun _ _ _ h => h) (Or.inl ⟨by rfl, ?_⟩) ?_ ?_
          rotate_left
          · intro w'
            go_simp
            with_reducible rfl
          rotate_left
          · simp only [Act.put, List.setIfInBounds_toArray, List.set_cons_zero, List.set_cons_succ, i64_w, i32_w]
            rfl
          exact norm_ (by simp only [putAll, Act.put, List.setIfInBounds_toArray, List.set_cons_zero, List.set_cons_succ]) (hCont ⟨vn, wr.heap.size⟩ _ (StepT.two (r := (⟨⟨k', L', b', t'⟩, n'⟩ : St × Int)) hrd4 hb4 ho4))
      rintro ⟨vn, g⟩ w5 hT5
      obtain ⟨aN, cN, hvn, -⟩ := id hT5.rd
      simp only at hvn
      subst hvn
      have K5 := Keeps.ofBelow (F := fun _ => False) hT5.bel
      have hHeld : w5.cell? ⟨w.heap.size, 0, none⟩ = some (.int .i64 rk) ∧ w5.cell? ⟨w.heap.size, 1, none⟩ = some (.slice aS rL.length cS) ∧ w5.cell? ⟨w.heap.size, 2, none⟩ = some (.bool rb) ∧ w5.cell? ⟨w.heap.size, 3, none⟩ = some (.int .i64 rt) ∧ w5.cell? ⟨bb, o + k * 3, none⟩ = some (.int .i64 co) ∧ w5.cell? ⟨bb, o + k * 3 + 1, none⟩ = some (.int .i64 oa) ∧ w5.cell? ⟨bb, o + k * 3 + 2, none⟩ = some (.int .i64 ob) := ⟨(K5.cellSome (fun h => h) q0), (K5.cellSome (fun h => h) q1), (K5.cellSome (fun h => h) q2), (K5.cellSome (fun h => h) q3), (K5.cellSome (fun h => h) hc0), (K5.cellSome (fun h => h) hc1), (K5.cellSome (fun h => h) hc2)⟩
      have g0 := hT5.box.cell 0
      have g1 := hT5.box.cell 1
      have g2 := hT5.box.cell 2
      have g3 := hT5.box.cell 3
      simp at g0 g1 g2 g3
      have gf0 := hT5.box.frozen 0
      have gf1 := hT5.box.frozen 1
      have gf2 := hT5.box.frozen 2
      have gf3 := hT5.box.frozen 3
      refine norm_ (a' := ?_) ?_ ?_
      rotate_left
      · simp only [putAll, Act.put, List.setIfInBounds_toArray, List.set_cons_zero, List.set_cons_succ]
        rfl
      refine last_ (i := 10) (N := none) #[true, true, true, true, true, true, true, true, true, true, true, false] rfl rfl (by kernel_rfl) (by decide) (fun K hK => ?_)
      refine skip_ (w1 := ?_) (by rfl) rfl ?_ ?_
      rotate_left
      · go_simp
        rfl
      try clear hHeld
      refine hK.out _ _ ?_
      clear hK K
      refine pure_ (i := 11) (N := some 9) (v := ?_) (a' := ?_) #[true, true, true, true, true, true, true, true, true, true, true, true] rfl rfl (by kernel_rfl) (fun _ _ _ h => h) (Or.inl ⟨by rfl, ?_⟩) ?_ ?_
      rotate_left
      · intro w'
        go_simp
        with_reducible rfl
      rotate_left
      · simp only [Act.put, List.setIfInBounds_toArray, List.set_cons_zero, List.set_cons_succ, i64_w, i32_w]
        rfl
      try clear hHeld
      refine done_ (by kernel_rfl) ?_
      have kG : Keeps (fun j => j = g) w5 ((((w5.setCell ⟨g, 0, none⟩ (.int .i64 k')).setCell ⟨g, 1, none⟩ (.slice aN L'.length cN)).setCell ⟨g, 2, none⟩ (.bool b')).setCell ⟨g, 3, none⟩ (.int .i64 t')) := res_keeps w5 g _ _ _ _
      have bG : Blk ((((w5.setCell ⟨g, 0, none⟩ (.int .i64 k')).setCell ⟨g, 1, none⟩ (.slice aN L'.length cN)).setCell ⟨g, 2, none⟩ (.bool b')).setCell ⟨g, 3, none⟩ (.int .i64 t')) g #[.int .i64 k', .slice aN L'.length cN, .bool b', .int .i64 t'] 24 := (((hT5.box.set 0 _).set 1 _).set 2 _).set 3 _
      generalize ((((w5.setCell ⟨g, 0, none⟩ (.int .i64 k')).setCell ⟨g, 1, none⟩ (.slice aN L'.length cN)).setCell ⟨g, 2, none⟩ (.bool b')).setCell ⟨g, 3, none⟩ (.int .i64 t')) = w6 at *
      have hgw : wr.heap.size ≤ g := hT5.new.1
      have bB : Blk w6 w.heap.size #[.int .i64 rk, .slice aS rL.length cS, .bool rb, .int .i64 rt] 24 := (hbox.drew.keeps K5 (fun h => h)).keeps kG (by omega)
      have bR : Blk w6 (w.heap.size + 1) #[.int .i64 0, .slice none 0 0, .bool false, .int .i64 0] 24 := (HR.out.res.drew.keeps K5 (fun h => h)).keeps kG (by omega)
      have hO6 := own_keeps (own_keeps (own_drew' HR.out.out) K5 (fun _ _ h => h)) kG (fun j hj e => by have := own_lt HR.out.out hj; omega)
      have hown6 : 0 < L'.length → ∀ j, (Value.slice aN L'.length cN).ownBlock = some j → (j < w.heap.size ∨ w.heap.size + 2 ≤ j) ∧ (Value.slice ao ol.length co').ownBlock ≠ some j ∧ j ≠ g := by
        intro h0 j hj
        rcases hT5.own with e | h
        · have e' : L'.length = rL.length := rd_len2 (e ▸ hT5.rd) HR.out.rd
          have hj' : (Value.slice aS rL.length cS).ownBlock = some j := e ▸ hj
          have h00 : 0 < rL.length := by omega
          have h1 := HR.out.own h00 j hj'
          have h2 := rd_lt HR.out.rd h00 hj'
          exact ⟨h1.1, h1.2, by omega⟩
        · have h1 := h j hj
          have h2 : wr.heap.size ≤ j := h1.1
          exact ⟨.inr (by omega), fun e => by have := own_lt HR.out.out e; omega, h1.2.2⟩
      have hrd6 : Rd w6 (.slice aN L'.length cN) L' := rd_keeps' hT5.rd kG (fun h0 j hj e => (hown6 h0 j hj).2.2 e)
      have hb6 : Below w.heap.size w w6 := (HR.out.below.drew.trans (hT5.bel.mono HR.out.below.size)).trans (kG.below (by rintro j rfl; omega) (by have := HR.out.below.size; have := hT5.bel.size; simp at *; omega))
      have hsz6 : wr.heap.size ≤ w6.heap.size := by have h1 := kG.size; have h2 := hT5.bel.size; simp at h2; omega
      have x0 := bG.cell 0
      have x1 := bG.cell 1
      have x2 := bG.cell 2
      have x3 := bG.cell 3
      have y0 := bB.cell 0
      have y1 := bB.cell 1
      have y2 := bB.cell 2
      have y3 := bB.cell 3
      simp at x0 x1 x2 x3 y0 y1 y2 y3
      have yf0 := bB.frozen 0
      have yf1 := bB.frozen 1
      have yf2 := bB.frozen 2
      have yf3 := bB.frozen 3
      have hgn : g ≠ w.heap.size := by omega
      have hgn' : w.heap.size ≠ g := by omega
      have HBB := Lib.hid bB
      have HBR := Lib.hid bR
      have hO6k : Own w6 3 1 (.slice ao k co') k (ints ol) := hll ▸ hO6
      have HO6 := Lib.hid hO6k
      have HFR := Lib.hid (hll ▸ HR.out.fresh : ∀ j, (Value.slice ao k co').ownBlock = some j → w.heap.size + 2 ≤ j)
      have HW6 := Lib.hid hown6
      have HRD6 := Lib.hid hrd6
      have HB6 := Lib.hid hb6
      have HLL := Lib.hid hll
      have hkk : k ≤ 1099511627776 := by omega
      have hnew : ∀ (j : Nat) (u : Value), [Value.int .i64 n'][j]? = some u → (((((w6.setCell ⟨w.heap.size, 0, none⟩ (.int .i64 k')).setCell ⟨w.heap.size, 1, none⟩ (.slice aN L'.length cN)).setCell ⟨w.heap.size, 2, none⟩ (.bool b')).setCell ⟨w.heap.size, 3, none⟩ (.int .i64 t')).alloc (.cells #[.int .i64 n'] 3)).cell? ((⟨w6.heap.size, 0, none⟩ : Addr).add j) = some u := fun j u hj => by
        have h := new_one ((((w6.setCell ⟨w.heap.size, 0, none⟩ (.int .i64 k')).setCell ⟨w.heap.size, 1, none⟩ (.slice aN L'.length cN)).setCell ⟨w.heap.size, 2, none⟩ (.bool b')).setCell ⟨w.heap.size, 3, none⟩ (.int .i64 t')) (.int .i64 n') 3 j u hj
        rw [show ((((w6.setCell ⟨w.heap.size, 0, none⟩ (.int .i64 k')).setCell ⟨w.heap.size, 1, none⟩ (.slice aN L'.length cN)).setCell ⟨w.heap.size, 2, none⟩ (.bool b')).setCell ⟨w.heap.size, 3, none⟩ (.int .i64 t')).heap.size = w6.heap.size by simp] at h
        exact h
      have hOA : Own (((((w6.setCell ⟨w.heap.size, 0, none⟩ (.int .i64 k')).setCell ⟨w.heap.size, 1, none⟩ (.slice aN L'.length cN)).setCell ⟨w.heap.size, 2, none⟩ (.bool b')).setCell ⟨w.heap.size, 3, none⟩ (.int .i64 t')).alloc (.cells #[.int .i64 n'] 3)) 3 1 (.slice ao k co') k (ints ol) := (own_keeps HO6.out (res_keeps w6 w.heap.size _ _ _ _) (fun j hj e => by have := HFR.out j hj; omega)).alloc _
      have HNEW := Lib.hid hnew
      have HOA := Lib.hid hOA
      clear hnew hOA
      clear kG bG bB bR hO6 hO6k hown6 hrd6 hb6 hT5 K5 g0 g1 g2 g3 gf0 gf1 gf2 gf3 q0 q1 q2 q3 hc0 hc1 hc2 hbox hrdr HS hll
      go_wp2_with (at_builtin; refine wpList_append_own_at _ rfl _ _ 22 rfl 0 3 i0 (.int .i64 0) 1 8 Try.underlying22 hi hz0 hz1 hz2 rfl (by decide) (.slice ao k co') k (ints ol) rfl HOA.out ⟨w6.heap.size, 0, none⟩ 1 1 [.int .i64 n'] rfl (by simp) HNEW.out (by simp [Value.oneCell']) (by simp only [maxLen]; omega) (by omega) (Nat.zero_le _) ?_; intro v7 w7 hO7 hg7 hnil hat7; clear hnil)
      go_roundw
      case rel =>
        refine ⟨k + 1, .slice aN L'.length cN, by omega, by go_num, ?_⟩
        rw [HEND.out]
        have k7 : Keeps (fun j => j = w.heap.size) w6 ((((w6.setCell ⟨w.heap.size, 0, none⟩ (.int .i64 k')).setCell ⟨w.heap.size, 1, none⟩ (.slice aN L'.length cN)).setCell ⟨w.heap.size, 2, none⟩ (.bool b')).setCell ⟨w.heap.size, 3, none⟩ (.int .i64 t')) := res_keeps w6 w.heap.size _ _ _ _
        have b7 : Blk ((((w6.setCell ⟨w.heap.size, 0, none⟩ (.int .i64 k')).setCell ⟨w.heap.size, 1, none⟩ (.slice aN L'.length cN)).setCell ⟨w.heap.size, 2, none⟩ (.bool b')).setCell ⟨w.heap.size, 3, none⟩ (.int .i64 t')) w.heap.size #[.int .i64 k', .slice aN L'.length cN, .bool b', .int .i64 t'] 24 := (((HBB.out.set 0 _).set 1 _).set 2 _).set 3 _
        have c7 := HBR.out.keeps k7 (by omega)
        have hs7 : ((((w6.setCell ⟨w.heap.size, 0, none⟩ (.int .i64 k')).setCell ⟨w.heap.size, 1, none⟩ (.slice aN L'.length cN)).setCell ⟨w.heap.size, 2, none⟩ (.bool b')).setCell ⟨w.heap.size, 3, none⟩ (.int .i64 t')).heap.size = w6.heap.size := by simp
        have hb7 : Below w.heap.size w ((((w6.setCell ⟨w.heap.size, 0, none⟩ (.int .i64 k')).setCell ⟨w.heap.size, 1, none⟩ (.slice aN L'.length cN)).setCell ⟨w.heap.size, 2, none⟩ (.bool b')).setCell ⟨w.heap.size, 3, none⟩ (.int .i64 t')) := HB6.out.trans (k7.below (by rintro j rfl; exact Nat.le_refl _) HB6.out.size)
        generalize ((((w6.setCell ⟨w.heap.size, 0, none⟩ (.int .i64 k')).setCell ⟨w.heap.size, 1, none⟩ (.slice aN L'.length cN)).setCell ⟨w.heap.size, 2, none⟩ (.bool b')).setCell ⟨w.heap.size, 3, none⟩ (.int .i64 t')) = w9 at *
        have kg : Keeps (fun j => (Value.slice ao k co').ownBlock = some j) (w9.alloc (.cells #[.int .i64 n'] 3)) w7 := (Keeps.refl _ _).grown hg7 (fun j e => .inl e)
        have hvo : (Value.slice ao ol.length co').ownBlock = (Value.slice ao k co').ownBlock := by rw [HLL.out]
        have hs9 : (w9.alloc (.cells #[.int .i64 n'] 3)).heap.size = w6.heap.size + 1 := by simp [hs7]
        have hsz7 := kg.size
        have hB7 := (hb7.alloc hb7.size (.cells #[.int .i64 n'] 3)).trans (kg.below (B := w.heap.size) (fun j e => by have := HFR.out j e; omega) (by have := HB6.out.size; omega))
        have e1 : ints ol ++ [Value.int .i64 n'] = ints (ol ++ [n']) := by simp [ints]
        have e2 : k + 1 = (ol ++ [n']).length := by simp [HLL.out]
        rw [e1, e2] at hO7
        refine ⟨hB7, by omega, (b7.alloc _).keeps kg (fun e => by have := HFR.out _ e; omega), (c7.alloc _).keeps kg (fun e => by have := HFR.out _ e; omega), hO7, ?_, ?_, ?_⟩
        · intro j hj
          rcases hat7 with e | e <;> rw [e] at hj
          · exact HFR.out j hj
          · injection hj with hj; omega
        · refine rd_keeps' (rd_keeps' HRD6.out (k7.alloc (.cells #[.int .i64 n'] 3)) (fun h0 j hj e => by have := (HW6.out h0 j hj).1; omega)) kg (fun h0 j hj e => (HW6.out h0 j hj).2.1 (hvo.trans e))
        · intro h0 j hj
          refine ⟨(HW6.out h0 j hj).1, fun e => ?_⟩
          have hl := rd_lt HRD6.out h0 hj
          rcases hat7 with e' | e' <;> rw [e'] at e
          · exact (HW6.out h0 j hj).2.1 (hvo.trans e)
          · injection e with e; omega
      case measure => simp [intOf]; omega
    · obtain rfl : k = len1 := by omega
      generalize foldS ⟨ki, L, b, t⟩ (opL f k) = r at *
      obtain ⟨⟨rk, rL, rb, rt⟩, ol⟩ := r
      simp only at hll hrel
      obtain ⟨aS, cS, hvs, -⟩ := id hrel.rd
      subst hvs
      obtain ⟨ao, co', hvo, -⟩ := id (own_rd hrel.out)
      subst hvo
      have q0 := hrel.box.cell 0
      have q1 := hrel.box.cell 1
      have q2 := hrel.box.cell 2
      have q3 := hrel.box.cell 3
      have r0 := hrel.res.cell 0
      have r1 := hrel.res.cell 1
      have r2 := hrel.res.cell 2
      have r3 := hrel.res.cell 3
      simp at q0 q1 q2 q3 r0 r1 r2 r3
      have rf0 := hrel.res.frozen 0
      have rf1 := hrel.res.frozen 1
      have rf2 := hrel.res.frozen 2
      have rf3 := hrel.res.frozen 3
      have d0 : decide ((k : Int) < k) = false := decide_eq_false (by omega)
      have HT := Lib.hid (hrel.told (.int .i64 rk) (.slice aS rL.length cS) (.bool rb) (.int .i64 rt))
      clear hrel hll
      go_wp2_with fail
      refine bodyPost_ret (v := .tuple #[.agg #[.int .i64 rk, .slice aS rL.length cS, .bool rb, .int .i64 rt], .slice ao ol.length co']) ?_ rfl HT.out
      simp [results, Try.results18, go_sem, r0, r1, r2, r3]
end Go.Proofs.Ytaoagaokocnehaa
/- Package objs: the walk of Fold. -/
namespace Go.Proofs.Ytaoagaokocnehaa
set_option linter.unusedVariables false
set_option maxRecDepth 100000
set_option linter.unusedSimpArgs false
open Go.RowKit

set_option maxRecDepth 100000 in
set_option maxHeartbeats 6400000 in
theorem o_fold {w : World} {vl : Value} (s : St) (a1 : Option Addr) (len1 cap1 : Nat) (f : Nat → Nat → Int) (hx : Rd w vl s.L) (hl : s.L.length ≤ 300) (hv : IsOps w a1 len1 f 3) (hl1 : len1 ≤ 1099511627776) :
    Calls Try.prog 17 #[.agg #[.int .i64 s.kind, vl, .bool s.isSealed, .int .i64 s.to], .slice a1 len1 cap1] w (FoldP w (foldS s (opL f len1))) := by
  obtain ⟨i0, hi, hz0, hz1, hz2⟩ := info_parts infoInt
  obtain ⟨ki, L, b, t⟩ := s
  simp only at hx hl ⊢
  have H0 := Lib.hid (FoldRel.start (w := w) (v := vl) ⟨ki, L, b, t⟩ hx)
  have HL := Lib.hid (fun k => fold_300 (opL f k) ⟨ki, L, b, t⟩ hl)
  have HV := Lib.hid hv
  obtain ⟨a, c, rfl, _⟩ := hx
  clear hv hl
  go_enter Try.func17, Try.ntmps17
  go_wp2_with fail
  go_loopw [6, 13] (fun o i wr => ∃ k : Nat, k ≤ len1 ∧ i = .int .i64 k ∧ FoldRel w (foldS ⟨ki, L, b, t⟩ (opL f k)) o wr) (fun _ i _ => len1 - (intOf i).toNat)
  case atStart => exact ⟨0, Nat.zero_le _, rfl, H0.out⟩
  case round =>
    obtain ⟨k, hk, rfl, hrel⟩ := hrel
    clear H0
    have hlk := HL.out k
    have hll : (foldS ⟨ki, L, b, t⟩ (opL f k)).2.length = k := by rw [foldS_length, opL_length]
    by_cases hkl : k < len1
    · obtain ⟨bb, o, rfl, hb, hcells⟩ := HV.out (by omega)
      have hc0 := hcells k 0 hkl (by omega)
      have hc1 := hcells k 1 hkl (by omega)
      have hc2 := hcells k 2 hkl (by omega)
      rw [Nat.add_zero] at hc0
      rw [← hrel.1.cell (p := ⟨bb, o + k * 3, none⟩) hb] at hc0
      rw [← hrel.1.cell (p := ⟨bb, o + k * 3 + 1, none⟩) hb] at hc1
      rw [← hrel.1.cell (p := ⟨bb, o + k * 3 + 2, none⟩) hb] at hc2
      have hbw : bb < wr.heap.size := Nat.lt_of_lt_of_le hb hrel.1.size
      have hend : foldS ⟨ki, L, b, t⟩ (opL f (k + 1)) = ((stepS (foldS ⟨ki, L, b, t⟩ (opL f k)).1 ⟨f k 0, f k 1, f k 2⟩).1, (foldS ⟨ki, L, b, t⟩ (opL f k)).2 ++ [(stepS (foldS ⟨ki, L, b, t⟩ (opL f k)).1 ⟨f k 0, f k 1, f k 2⟩).2]) := by
        rw [opL_succ, foldS_snoc]
      have hS := fun W v (hx : Rd W v (foldS ⟨ki, L, b, t⟩ (opL f k)).1.L) => o_step (w := W) (vl := v) (foldS ⟨ki, L, b, t⟩ (opL f k)).1 ⟨f k 0, f k 1, f k 2⟩ hx (by omega)
      have HEND := Lib.hid hend
      clear hend hcells
      generalize foldS ⟨ki, L, b, t⟩ (opL f k) = r at *
      obtain ⟨⟨rk, rL, rb, rt⟩, ol⟩ := r
      simp only at hS HEND hlk hll
      generalize hr2 : stepS ⟨rk, rL, rb, rt⟩ ⟨f k 0, f k 1, f k 2⟩ = r2 at *
      clear hr2
      obtain ⟨⟨tk, tL, tb, tt⟩, n⟩ := r2
      simp only at HEND
      generalize f k 0 = co at *
      generalize f k 1 = oa at *
      generalize f k 2 = ob at *
      obtain ⟨ar, cr, ao, co', rfl, ⟨q0, q1, q2, q3⟩, ⟨qf0, qf1, qf2, qf3⟩, hlt, hrd, hheld⟩ := hrel.open
      simp only at q0 q1 q2 q3 hrd hheld
      rw [hll] at hheld hrel
      have HS := fun W v hx => Lib.hid (hS W v hx)
      have HREL := Lib.hid hrel
      have HRD := Lib.hid hrd
      have HH := Lib.hid hheld
      have HLL := Lib.hid hll
      clear hS hrel hrd hheld hlk
      rw [hll]
      go_wp2_with fail
      have hop := (Below.refl wr.heap.size wr).alloc (Nat.le_refl _) (.cells #[.int .i64 co, .int .i64 oa, .int .i64 ob] 26)
      refine (HS _ _ (HRD.out.below hop (Nat.le_refl _))).out.mono ?_
      rintro e w4 ⟨v4, rfl, hrd4, hb4, hor4⟩
      obtain ⟨a4, c4, rfl, _⟩ := id hrd4
      have hmid := FoldRel.mid (.cells #[.int .i64 tk, .slice a4 tL.length c4, .bool tb, .int .i64 tt] 24) HREL.out HH.out hop hrd4 hb4 hor4
      obtain ⟨cs, hcs, hbx⟩ := hmid.box
      obtain ⟨u0, u1, u2, u3, rfl⟩ : ∃ u0 u1 u2 u3, cs = #[u0, u1, u2, u3] := by
        obtain ⟨l⟩ := cs
        match l, hcs with
        | [u0, u1, u2, u3], _ => exact ⟨u0, u1, u2, u3, rfl⟩
      have hlt4 : w.heap.size < w4.heap.size := by have := hop.size; have := hb4.size; simp only [World.size_alloc] at *; omega
      have hN := (Below.refl w4.heap.size w4).alloc (Nat.le_refl _) (.cells #[.int .i64 tk, .slice a4 tL.length c4, .bool tb, .int .i64 tt] 24)
      have x0 := (hN.cell (p := ⟨w.heap.size, 0, none⟩) hlt4).symm.trans (hbx.cell 0)
      have x1 := (hN.cell (p := ⟨w.heap.size, 1, none⟩) hlt4).symm.trans (hbx.cell 1)
      have x2 := (hN.cell (p := ⟨w.heap.size, 2, none⟩) hlt4).symm.trans (hbx.cell 2)
      have x3 := (hN.cell (p := ⟨w.heap.size, 3, none⟩) hlt4).symm.trans (hbx.cell 3)
      have xf0 := (hN.frozen (p := ⟨w.heap.size, 0, none⟩) hlt4).symm.trans (hbx.frozen 0)
      have xf1 := (hN.frozen (p := ⟨w.heap.size, 1, none⟩) hlt4).symm.trans (hbx.frozen 1)
      have xf2 := (hN.frozen (p := ⟨w.heap.size, 2, none⟩) hlt4).symm.trans (hbx.frozen 2)
      have xf3 := (hN.frozen (p := ⟨w.heap.size, 3, none⟩) hlt4).symm.trans (hbx.frozen 3)
      simp at x0 x1 x2 x3
      have HM := Lib.hid hmid
      have HBX := Lib.hid hbx
      have HBN := Lib.hid (Blk.new w4 #[.int .i64 tk, .slice a4 tL.length c4, .bool tb, .int .i64 tt] 24)
      clear hop hrd4 hb4 hor4 hmid hbx hN
      have hnew : ∀ (j : Nat) (u : Value), [Value.int .i64 n][j]? = some u → ((w4.alloc (.cells #[.int .i64 tk, .slice a4 tL.length c4, .bool tb, .int .i64 tt] 24)).alloc (.cells #[.int .i64 n] 3)).cell? ((⟨w4.heap.size + 1, 0, none⟩ : Addr).add j) = some u := by
        have := cell_one_new (w4.alloc (.cells #[.int .i64 tk, .slice a4 tL.length c4, .bool tb, .int .i64 tt] 24)) (.int .i64 n) 3
        rwa [World.size_alloc] at this
      have HNEW := Lib.hid hnew
      clear hnew
      have hone : ol.length ≤ 1099511627776 := by omega
      have hk48 : k ≤ 1099511627776 := by omega
      go_wp2_with fail
      go_region_law (first | (refine step_append_lies _ rfl (.tmp 24) (.tmp 26) 22 rfl 0 3 i0 (.int .i64 0) 1 8 Try.underlying22 hi hz0 hz1 hz2 rfl (by decide) (.slice ao k co') k (ints ol) (by simp [Act.eval, Act.put]) (own_keeps (F := fun _ => False) (HLL.out ▸ HM.out.own) ((Keeps.refl _ _).alloc _).drew (by simp)) ⟨w4.heap.size + 1, 0, none⟩ 1 1 [.int .i64 n] (by simp [Act.eval, Act.put]) (by simp) (fun j u hj => by simpa using HNEW.out j u hj) (by simp [Value.oneCell']) (by omega) (by simp only [maxLen]; omega) (by omega) (Nat.zero_le _) (w4.heap.size + 1 + 1) (by simp) ?_; intro g cap w5 hown5 hgrow hat hlt5; have k5 : Keeps (fun q => (Value.slice ao k co').ownBlock = some q) (w4.alloc (.cells #[.int .i64 tk, .slice a4 tL.length c4, .bool tb, .int .i64 tt] 24)) w5 := (((Keeps.refl _ _).alloc _).drew.grown hgrow (fun k hk => .inl hk)); have b5 := HBX.out.keeps k5 (own_blk_ne HM.out.own HBX.out (by decide)); have z0 := b5.cell 0; have z1 := b5.cell 1; have z2 := b5.cell 2; have z3 := b5.cell 3; have zf0 := b5.frozen 0; have zf1 := b5.frozen 1; have zf2 := b5.frozen 2; have zf3 := b5.frozen 3; simp at z0 z1 z2 z3; have bn := HBN.out.keeps k5 (own_blk_ne HM.out.own HBN.out (by decide)); have y0 := bn.cell 0; have y1 := bn.cell 1; have y2 := bn.cell 2; have y3 := bn.cell 3; simp at y0 y1 y2 y3; have K5 := Lib.hid k5; have B5 := Lib.hid b5; have HO5 := Lib.hid hown5; have HAT := Lib.hid hat; clear k5 b5 bn hown5 hgrow hat))
      all_goals
        go_wp2_with fail
        go_roundw
        case rel =>
          refine ⟨k + 1, by omega, by go_num, ?_⟩
          rw [HEND.out]
          have e := HLL.out
          subst e
          have kS := ((((K5.out.mono (G := fun q => q = w.heap.size ∨ (Value.slice ao ol.length co').ownBlock = some q) (fun q h => .inr h)).set w.heap.size 0 (.inl (.inl rfl)) (.int .i64 tk)).set w.heap.size 1 (.inl (.inl rfl)) (.slice a4 tL.length c4)).set w.heap.size 2 (.inl (.inl rfl)) (.bool tb)).set w.heap.size 3 (.inl (.inl rfl)) (.int .i64 tt)
          have k6 := ((((Keeps.refl (fun q => q = w.heap.size) w5).set w.heap.size 0 (.inl rfl) (.int .i64 tk)).set w.heap.size 1 (.inl rfl) (.slice a4 tL.length c4)).set w.heap.size 2 (.inl rfl) (.bool tb)).set w.heap.size 3 (.inl rfl) (.int .i64 tt)
          refine Mid.end HM.out kS ((((B5.out.set 0 _).set 1 _).set 2 _).set 3 _) (own_keeps HO5.out k6 (fun q hq e => own_blk_ne HO5.out B5.out (by decide) (e ▸ hq))) (fun q hq => ?_)
          simp only [Value.ownBlock, Option.some.injEq] at hq
          subst hq
          rcases HAT.out with h | h
          · exact .inl h
          · exact .inr (by rw [World.size_alloc]; omega)
        case measure => simp [intOf]; omega
    · obtain rfl : k = len1 := by omega
      generalize foldS ⟨ki, L, b, t⟩ (opL f k) = r at *
      obtain ⟨⟨rk, rL, rb, rt⟩, ol⟩ := r
      simp only at hlk hll
      obtain ⟨ar, cr, ao, co', rfl, ⟨q0, q1, q2, q3⟩, ⟨qf0, qf1, qf2, qf3⟩, hlt, hrd, hheld⟩ := hrel.open
      simp only at q0 q1 q2 q3 hrd hheld
      have hr := hrel.2.2.2.1
      have r0 := hr.cell 0
      have r1 := hr.cell 1
      have r2 := hr.cell 2
      have r3 := hr.cell 3
      have rf0 := hr.frozen 0
      have rf1 := hr.frozen 1
      have rf2 := hr.frozen 2
      have rf3 := hr.frozen 3
      simp at r0 r1 r2 r3
      have HT := Lib.hid (hrel.told hheld (.int .i64 rk) (.slice ar rL.length cr) (.bool rb) (.int .i64 rt))
      clear hr hrel hheld hrd hlk hll
      go_wp2_with fail
      refine bodyPost_ret (v := .tuple #[.agg #[.int .i64 rk, .slice ar rL.length cr, .bool rb, .int .i64 rt], .slice ao ol.length co']) ?_ rfl HT.out
      simp [results, Try.results17, go_sem, r0, r1, r2, r3]
end Go.Proofs.Ytaoagaokocnehaa
/- Layer 4: Ints. -/
namespace Go.Proofs.Ytaoagaokocnehaa
set_option linter.unusedVariables false
set_option maxRecDepth 100000
set_option linter.unusedSimpArgs false
open Go.RowKit

set_option maxRecDepth 100000 in
set_option maxHeartbeats 1600000 in
theorem ints04 {w : World} {v u : Value} {xs ys : List Int} (hx : Rd w v xs) (hy : Rd w u ys) :
    Calls Try.prog 19 #[v, u] w (Tells w (decide (xs = ys))) := by
  obtain ⟨n, a, c, f, rfl, hn, hnc, hcm, hf, hv⟩ := hx.view
  obtain ⟨m, a2, c2, g, rfl, hm, hmc, hcm2, hg, hv2⟩ := hy.view
  clear hx hy
  by_cases hnm : n = m
  · subst hnm
    have hne : ((n : Int) != n) = false := by simp
    have HV := Lib.hid hv
    have HV2 := Lib.hid hv2
    have HN := Lib.hid hn
    have HM := Lib.hid hm
    have HF := Lib.hid hf
    have HG := Lib.hid hg
    clear hv hv2 hn hm hf hg
    go_enter Try.func19, Try.ntmps19
    go_wp2_with fail
    go_loopw [5] (fun i wr => ∃ k : Nat, k ≤ n ∧ i = .int .i64 k ∧ (∃ q, wr = w.drewN q) ∧ ∀ j, j < k → f j = g j) (fun i _ => n - (intOf i).toNat)
    case atStart => exact ⟨0, Nat.zero_le _, rfl, ⟨0, rfl⟩, by intro j hj; omega⟩
    case round =>
      obtain ⟨k, hk, rfl, ⟨q, rfl⟩, hfg⟩ := hrel
      have HE := Lib.hid hfg
      clear hfg
      by_cases hlt : k < n
      · obtain ⟨b, o, rfl, hb, hc⟩ := HV.out (by omega)
        obtain ⟨b2, o2, rfl, hb2, hc2⟩ := HV2.out (by omega)
        have h1 := hc k hlt
        have h2 := hc2 k hlt
        clear hc hc2
        have HK : Hid (f k = f k ∧ g k = g k) := ⟨rfl, rfl⟩
        obtain ⟨fk, hfk⟩ : ∃ fk, fk = f k := ⟨_, rfl⟩
        obtain ⟨gk, hgk⟩ : ∃ gk, gk = g k := ⟨_, rfl⟩
        rw [← hfk] at h1
        rw [← hgk] at h2
        have HFK := Lib.hid hfk
        have HGK := Lib.hid hgk
        clear hfk hgk HK
        by_cases he : fk = gk
        · subst he
          have hnb : (fk != fk) = false := by simp
          go_wp2_with fail
          go_quiet (fail)
          go_wp2_with fail
          go_roundw
          case rel => exact ⟨k + 1, by omega, by go_num, ⟨_, rfl⟩, fun j hj => by
            rcases Nat.lt_or_ge j k with h | h
            · exact HE.out j h
            · obtain rfl : j = k := by omega
              rw [← HFK.out, ← HGK.out]⟩
          case measure => simp [intOf]; omega
        · have hnb : (fk != gk) = true := by simpa using he
          have fin : ∀ q r, Tells w (decide (xs = ys)) (.returned (.bool false)) ((w.drewN q).drewN r) := by
            intro q r
            have : xs ≠ ys := by
              refine getD_ne (k := k) ?_
              rw [← HF.out, ← HG.out, ← HFK.out, ← HGK.out]
              exact he
            refine ⟨by rw [decide_eq_false this], ?_⟩
            exact ⟨rfl, rfl, rfl, Nat.le_refl _, fun _ _ => rfl⟩
          have HT := Lib.hid fin
          clear fin he
          go_wp2_with fail
          go_quiet (fail)
          go_wp2_with fail
          go_ret
          exact HT.out _ _
      · obtain rfl : k = n := by omega
        have fin : Tells w (decide (xs = ys)) (.returned (.bool true)) (w.drewN q) := by
          have : xs = ys := list_eq_of (by rw [← HN.out, ← HM.out]) (fun j hj => by rw [← HF.out, ← HG.out]; exact HE.out j (by rw [HN.out]; exact hj))
          exact ⟨by rw [decide_eq_true this], ⟨rfl, rfl, rfl, Nat.le_refl _, fun _ _ => rfl⟩⟩
        have HT := Lib.hid fin
        clear fin
        go_wp2_with fail
        go_ret
        exact HT.out
  · have hne : ((n : Int) != m) = true := by simp; omega
    have fin : Tells w (decide (xs = ys)) (.returned (.bool false)) w := by
      have : xs ≠ ys := fun e => hnm (by rw [hn, hm, e])
      exact ⟨by rw [decide_eq_false this], Below.refl _ _⟩
    have HT := Lib.hid fin
    clear fin hnm hv hv2 hf hg hn hm
    go_enter Try.func19, Try.ntmps19
    go_wp2_with fail
    go_ret
    exact HT.out

end Go.Proofs.Ytaoagaokocnehaa
/- Layer 4: ObjsFolds returns true, whatever the state and the operations. -/
namespace Go.Proofs.Ytaoagaokocnehaa
set_option linter.unusedVariables false
set_option maxRecDepth 100000
set_option linter.unusedSimpArgs false
open Go.RowKit

theorem sameB_refl (s : St) : sameB s s = true := by simp [sameB]
theorem isOps_below {w w' : World} {a : Option Addr} {len m : Nat} {f : Nat → Nat → Int} (h : IsOps w a len f m) (hb : Below w.heap.size w w') : IsOps w' a len f m := by
  intro h0
  obtain ⟨b, o, e, hl, hc⟩ := h h0
  exact ⟨b, o, e, Nat.lt_of_lt_of_le hl hb.size, fun i j hi hj => (hb.cell (p := ⟨b, o + i * m + j, none⟩) hl).trans (hc i j hi hj)⟩

set_option maxRecDepth 100000 in
set_option maxHeartbeats 6400000 in
theorem ofolds_walk (s : St) (vl : Value) (al : Option Addr) (len cap : Nat) (w : World) (hx : Rd w vl s.L) (hlm : len ≤ 9223372036854775807) (f : Nat → Nat → Int) (hv : IsOps w al len f 3) :
    Calls Try.prog 6 #[.agg #[.int .i64 s.kind, vl, .bool s.isSealed, .int .i64 s.to], .slice al len cap] w (Tells w true) := by
  obtain ⟨k, L, b, t⟩ := s
  simp only at hx ⊢
  obtain ⟨a, n, c, rfl, hn⟩ : ∃ a n c, vl = .slice a n c ∧ n = L.length := by
    obtain ⟨a, c, e, _⟩ := hx
    exact ⟨a, _, c, e, rfl⟩
  have FEW := fun W (h : Rd W (.slice a n c) L) => Lib.hid (few04 (w := W) (vl := .slice a n c) ⟨k, L, b, t⟩ h)
  simp only at FEW
  have bs := Blk.new w #[.int .i64 k, .slice a n c, .bool b, .int .i64 t] 24
  have hW0 : Below w.heap.size w (w.alloc (.cells #[.int .i64 k, .slice a n c, .bool b, .int .i64 t] 24)) := (Below.refl _ w).alloc (Nat.le_refl _) _
  have HX := Lib.hid hx
  have HN := Lib.hid hn
  have HV := Lib.hid hv
  clear hx hn hv
  by_cases hl : L.length ≤ 300
  case neg =>
    simp only [decide_eq_false hl] at FEW
    go_enter Try.func6, Try.ntmps6
    go_wp2_with fail
    refine (awake04 _).mono ?_
    rintro e wa ⟨rfl, hBa⟩
    have q0 : wa.cell? ⟨w.heap.size, 0, none⟩ = some (.int .i64 k) := (bs.below hBa bs.lt).cell 0
    have q1 : wa.cell? ⟨w.heap.size, 1, none⟩ = some (.slice a n c) := (bs.below hBa bs.lt).cell 1
    have q2 : wa.cell? ⟨w.heap.size, 2, none⟩ = some (.bool b) := (bs.below hBa bs.lt).cell 2
    have q3 : wa.cell? ⟨w.heap.size, 3, none⟩ = some (.int .i64 t) := (bs.below hBa bs.lt).cell 3
    have hWa := hW0.trans (hBa.mono hW0.size)
    have HWa := Lib.hid hWa
    clear hWa
    go_wp2_with fail
    refine (FEW _ (HX.out.below HWa.out (Nat.le_refl _))).out.mono ?_
    rintro e wb ⟨rfl, hBb⟩
    clear q0 q1 q2 q3
    have hB2 := hBa.trans (hBb.mono hBa.size)
    have hWb := HWa.out.trans (hBb.mono HWa.out.size)
    have q0 : wb.cell? ⟨w.heap.size, 0, none⟩ = some (.int .i64 k) := (bs.below hB2 bs.lt).cell 0
    have q1 : wb.cell? ⟨w.heap.size, 1, none⟩ = some (.slice a n c) := (bs.below hB2 bs.lt).cell 1
    have q2 : wb.cell? ⟨w.heap.size, 2, none⟩ = some (.bool b) := (bs.below hB2 bs.lt).cell 2
    have q3 : wb.cell? ⟨w.heap.size, 3, none⟩ = some (.int .i64 t) := (bs.below hB2 bs.lt).cell 3
    have HWb := Lib.hid hWb
    clear hWb hBa hBb
    go_wp2_with fail
    go_ret
    exact ⟨rfl, HWb.out⟩
  simp only [decide_eq_true hl] at FEW
  by_cases h200 : (200 : Int) < (len : Int)
  case pos =>
    have d200 : decide ((200 : Int) < (len : Int)) = true := decide_eq_true h200
    go_enter Try.func6, Try.ntmps6
    go_wp2_with fail
    refine (awake04 _).mono ?_
    rintro e wa ⟨rfl, hBa⟩
    have q0 : wa.cell? ⟨w.heap.size, 0, none⟩ = some (.int .i64 k) := (bs.below hBa bs.lt).cell 0
    have q1 : wa.cell? ⟨w.heap.size, 1, none⟩ = some (.slice a n c) := (bs.below hBa bs.lt).cell 1
    have q2 : wa.cell? ⟨w.heap.size, 2, none⟩ = some (.bool b) := (bs.below hBa bs.lt).cell 2
    have q3 : wa.cell? ⟨w.heap.size, 3, none⟩ = some (.int .i64 t) := (bs.below hBa bs.lt).cell 3
    have hWa := hW0.trans (hBa.mono hW0.size)
    have HWa := Lib.hid hWa
    clear hWa
    go_wp2_with fail
    refine (FEW _ (HX.out.below HWa.out (Nat.le_refl _))).out.mono ?_
    rintro e wb ⟨rfl, hBb⟩
    clear q0 q1 q2 q3
    have hB2 := hBa.trans (hBb.mono hBa.size)
    have hWb := HWa.out.trans (hBb.mono HWa.out.size)
    have q0 : wb.cell? ⟨w.heap.size, 0, none⟩ = some (.int .i64 k) := (bs.below hB2 bs.lt).cell 0
    have q1 : wb.cell? ⟨w.heap.size, 1, none⟩ = some (.slice a n c) := (bs.below hB2 bs.lt).cell 1
    have q2 : wb.cell? ⟨w.heap.size, 2, none⟩ = some (.bool b) := (bs.below hB2 bs.lt).cell 2
    have q3 : wb.cell? ⟨w.heap.size, 3, none⟩ = some (.int .i64 t) := (bs.below hB2 bs.lt).cell 3
    have HWb := Lib.hid hWb
    clear hWb hBa hBb
    go_wp2_with fail
    go_ret
    exact ⟨rfl, HWb.out⟩
  have d200 : decide ((200 : Int) < (len : Int)) = false := decide_eq_false h200
  go_enter Try.func6, Try.ntmps6
  go_wp2_with fail
  refine (awake04 _).mono ?_
  rintro e wa ⟨rfl, hBa⟩
  have q0 : wa.cell? ⟨w.heap.size, 0, none⟩ = some (.int .i64 k) := (bs.below hBa bs.lt).cell 0
  have q1 : wa.cell? ⟨w.heap.size, 1, none⟩ = some (.slice a n c) := (bs.below hBa bs.lt).cell 1
  have q2 : wa.cell? ⟨w.heap.size, 2, none⟩ = some (.bool b) := (bs.below hBa bs.lt).cell 2
  have q3 : wa.cell? ⟨w.heap.size, 3, none⟩ = some (.int .i64 t) := (bs.below hBa bs.lt).cell 3
  have hWa := hW0.trans (hBa.mono hW0.size)
  have HWa := Lib.hid hWa
  clear hWa
  go_wp2_with fail
  refine (FEW _ (HX.out.below HWa.out (Nat.le_refl _))).out.mono ?_
  rintro e wb ⟨rfl, hBb⟩
  clear q0 q1 q2 q3
  have hB2 := hBa.trans (hBb.mono hBa.size)
  have hWb := HWa.out.trans (hBb.mono HWa.out.size)
  have q0 : wb.cell? ⟨w.heap.size, 0, none⟩ = some (.int .i64 k) := (bs.below hB2 bs.lt).cell 0
  have q1 : wb.cell? ⟨w.heap.size, 1, none⟩ = some (.slice a n c) := (bs.below hB2 bs.lt).cell 1
  have q2 : wb.cell? ⟨w.heap.size, 2, none⟩ = some (.bool b) := (bs.below hB2 bs.lt).cell 2
  have q3 : wb.cell? ⟨w.heap.size, 3, none⟩ = some (.int .i64 t) := (bs.below hB2 bs.lt).cell 3
  have HWb := Lib.hid hWb
  clear hWb hBa hBb
  obtain ⟨r, hr⟩ : ∃ r, foldS ⟨k, L, b, t⟩ (opL f len) = r := ⟨_, rfl⟩
  have OS := fun (W : World) (h : Rd W (.slice a n c) L) (h' : IsOps W al len f 3) => Lib.hid (o_fold (w := W) (vl := .slice a n c) ⟨k, L, b, t⟩ al len cap f h (by simp only; omega) h' (by omega))
  have RS := fun (W : World) (h : Rd W (.slice a n c) L) (h' : IsOps W al len f 3) => Lib.hid (r_fold (w := W) (vl := .slice a n c) ⟨k, L, b, t⟩ al len cap f h h' (by omega))
  rw [hr] at OS RS
  clear hr
  obtain ⟨⟨k', L', b', t'⟩, ol⟩ := r
  simp only at OS RS
  have hB2s := hB2.size
  have z0 : w.heap.size < wb.heap.size := by simp at hB2s; omega
  have bSb := bs.below hB2 bs.lt
  clear hB2 hB2s
  go_wp2_with fail
  refine (OS wb (HX.out.below HWb.out (Nat.le_refl _)) (isOps_below HV.out HWb.out)).out.mono ?_
  rintro e w8 ⟨va, xa, rfl, rda, rxa, hb8⟩
  obtain ⟨aa, ca, rfl, -⟩ := id rda
  obtain ⟨ax, cx, rfl, -⟩ := id rxa
  have bS8 := bSb.below hb8 bSb.lt
  have q0 := bS8.cell 0
  have q1 := bS8.cell 1
  have q2 := bS8.cell 2
  have q3 := bS8.cell 3
  simp at q0 q1 q2 q3
  have z1 : w.heap.size < w8.heap.size := bS8.lt
  have z3 : w.heap.size ≠ w8.heap.size := by omega
  have hA : Below w8.heap.size w8 (w8.alloc (.cells #[.int .i64 k', .slice aa L'.length ca, .bool b', .int .i64 t'] 24)) := (Below.refl _ _).alloc (Nat.le_refl _) _
  have bA := Blk.new w8 #[.int .i64 k', .slice aa L'.length ca, .bool b', .int .i64 t'] 24
  have hw8 := HWb.out.trans (hb8.mono HWb.out.size)
  have rda8 := rda.below hA (Nat.le_refl _)
  have rxa8 := rxa.below hA (Nat.le_refl _)
  have hwA := hw8.trans (hA.mono hw8.size)
  clear bSb bS8 rda rxa hw8 hb8 hA z0
  go_wp2_with fail
  refine (RS _ (HX.out.below hwA (Nat.le_refl _)) (isOps_below HV.out hwA)).out.mono ?_
  rintro e w9 ⟨vb, xb, rfl, rdb, rxb, hb9⟩
  obtain ⟨ab, cb, rfl, -⟩ := id rdb
  obtain ⟨bx, dx, rfl, -⟩ := id rxb
  clear q0 q1 q2 q3 z1 z3
  have bA9 := bA.below hb9 bA.lt
  have e0 := bA9.cell 0
  have e1 := bA9.cell 1
  have e2 := bA9.cell 2
  have e3 := bA9.cell 3
  simp at e0 e1 e2 e3
  have z0 := bA9.lt
  have z3 : w8.heap.size ≠ w9.heap.size := by omega
  have hB : Below w9.heap.size w9 (w9.alloc (.cells #[.int .i64 k', .slice ab L'.length cb, .bool b', .int .i64 t'] 24)) := (Below.refl _ _).alloc (Nat.le_refl _) _
  have rdaB := (rda8.below hb9 (Nat.le_refl _)).below hB (Nat.le_refl _)
  have rdbB := rdb.below hB (Nat.le_refl _)
  have rxaB := (rxa8.below hb9 (Nat.le_refl _)).below hB (Nat.le_refl _)
  have rxbB := rxb.below hB (Nat.le_refl _)
  have SM := r_same (w := w9.alloc (.cells #[.int .i64 k', .slice ab L'.length cb, .bool b', .int .i64 t'] 24)) ⟨k', L', b', t'⟩ ⟨k', L', b', t'⟩ rdaB rdbB
  rw [sameB_refl] at SM
  have SM := Lib.hid SM
  have hw9 := hwA.trans (hb9.mono hwA.size)
  have hwB := hw9.trans (hB.mono hw9.size)
  clear bA9 bA rda8 rxa8 rdb rxb hb9 hB hw9 hwA rdaB rdbB
  go_wp2_with fail
  refine SM.out.mono ?_
  rintro e w10 ⟨rfl, hb10⟩
  have IN := ints04 (w := w10) (rxaB.below hb10 (Nat.le_refl _)) (rxbB.below hb10 (Nat.le_refl _))
  rw [decide_eq_true rfl] at IN
  have IN := Lib.hid IN
  have hw10 := hwB.trans (hb10.mono hwB.size)
  have HW10 := Lib.hid hw10
  clear rxaB rxbB hb10 hwB hw10 e0 e1 e2 e3 z0 z3 SM
  go_wp2_with fail
  refine IN.out.mono ?_
  rintro e w11 ⟨rfl, hb11⟩
  go_wp2_with fail
  go_ret
  exact ⟨rfl, HW10.out.trans (hb11.mono HW10.out.size)⟩
end Go.Proofs.Ytaoagaokocnehaa
/- Layer 4, ObjsFolds: whatever the state and the operations, the law returns true, and the arguments read as they did. No condition. -/
namespace Go.Proofs.Ytaoagaokocnehaa.objsFolds
open Go.ChangeShapes Go.WideShapes Go.ChangeAt Go.RowKit
open Go.ChangeMaps (open_string shut_string)
set_option linter.unusedVariables false
set_option maxRecDepth 100000
set_option linter.unusedSimpArgs false

theorem own : ownKnob Try.prog.godebug = none := by kernel_rfl
theorem laidOut : laidOutB Try.prog = true := by kernel_rfl

set_option maxRecDepth 100000 in
theorem lifted (os : Os) (started : os.Started) (H : Type) (enc : TypeId × Value → H) :
    ReturnsInHanded {} Try.checked os 6 .any (Rows.objsFoldsSpec.pre6 enc Try.prog Try.f6 Rows.objsFoldsRow.domain false) (Rows.objsFoldsSpec.post enc Try.prog Try.f6 false true false false) := by
  refine returnsInHanded_of_change (C := Try.checked) own started (by kernel_rfl) Try.func6
    (ChangeSpec.witness6 (enc := enc) (C := Try.checked) false ⟨#[], #[.agg #[.int .i64 0, .slice none 0 0, .bool false, .int .i64 0], .slice none 0 0], []⟩ 8 (by kernel_rfl) (by kernel_rfl) (by kernel_rfl) (by kernel_rfl)) ?_
  intro W base args ds gs before hval0 hW hcnd _
  have hval : ∀ (j : Nat) t v, Try.f6.params[j]? = some t → args[j]? = some v → Value.okWide Try.prog W .any base t v := hval0
  have hW' := hW
  obtain ⟨p, q, hA0, hV, rfl, hfz, hnd⟩ := hW
  have hA : DataW.TrodAll enc Try.prog W 0 (fun _ => true) true Try.f6.params.toList args.toList ds p := hA0
  rw [Try.params6] at hA hval
  obtain ⟨v0, vs0, d0, ds0, p0, q0, hargs, rfl, rfl, h0, r0⟩ := trodAll_cons hA
  obtain ⟨v1, vs1, d1, ds1, p1, q1, rfl, rfl, rfl, h1, r1⟩ := trodAll_cons r0
  obtain ⟨rfl, rfl, rfl⟩ := trodAll_nil r1
  obtain rfl : args = #[v0, v1] := by cases args; simp_all
  obtain ⟨rfl, rfl⟩ := trodVars_none hV
  have k0 := h0
  have lt0 : ∀ x ∈ p0, x.block < W.heap.size := by obtain ⟨m, hm⟩ := k0; exact DataW.trod_lt m _ _ _ hm
  have k1 := h1
  have lt1 : ∀ x ∈ p1, x.block < W.heap.size := by obtain ⟨m, hm⟩ := k1; exact DataW.trod_lt m _ _ _ hm
  obtain ⟨s0, l0, rfl, w0⟩ := open_state (hval 0 24 v0 rfl rfl) h0
  obtain ⟨a1, len1, cap1, rfl⟩ := okWide_slice Try.underlying35 (hval 1 35 v1 rfl rfl)
  obtain ⟨hl1, f1, w1⟩ : len1 ≤ 9223372036854775807 ∧ ∃ f, IsOps W a1 len1 f 3 := by
    obtain ⟨fuel, hf⟩ := h1
    exact open_int_structs Try.underlying35 Try.underlying26 (by kernel_rfl) (by kernel_rfl) Try.underlying3 (by intro j f hj; rcases j with _ | _ | _ | _ | _ | _ | j <;> simp at hj <;> subst hj <;> rfl) (by simp) a1 len1 cap1 (by simpa [Value.cells] using hf)
  clear hA0 hval0
  refine (ofolds_walk s0 l0 a1 len1 cap1 W w0 hl1 f1 w1).mono fun e W' ⟨he, bel⟩ => ?_
  subst he
  exact ⟨_, rfl, _, _, _, [], _, [], hW', trodAll_mk1 (shut_bool Try.underlying4 _), (trodAll_cons_mk (Below.trod laidOut (by kernel_rfl) (of_decide_eq_true (by kernel_rfl)) k0 bel lt0) (trodAll_cons_mk (Below.trod laidOut (by kernel_rfl) (of_decide_eq_true (by kernel_rfl)) k1 bel lt1) trodAll_mk0)), rfl, bel.frame _, fun h => by cases h⟩

theorem over : Rows.objsFoldsRow.holds Try.pinned (OpenSpec.ofChange Rows.objsFoldsSpec) :=
  OpenClaim.holds_of_wide 6 Try.f6 rfl rfl rfl rfl rfl rfl rfl ⟨rfl, rfl, rfl, rfl, rfl⟩ rfl rfl rfl rfl rfl (by kernel_rfl) Try.func6 (by kernel_rfl)
    (of_decide_eq_true (by kernel_rfl)) (by unfold Func.isWrapper; first | (rw [if_pos (by decide +kernel)]; kernel_rfl) | (rw [if_neg (by decide +kernel)]; exact ⟨rfl, rfl⟩))
    (fun os started H enc _ => lifted os started H enc)

theorem proved : Rows.ObjsFoldsSaid := over
#print axioms proved
end Go.Proofs.Ytaoagaokocnehaa.objsFolds
