/-
  A state behind operations, one behind the other: in plain Lean; what a walk of a fold knows at each round.
-/
import Derived.Test.YtaoagaokocnehaaHeld2
import Derived.Test.YtaoagaokocnehaaStaP
import Derived.Test.YtaoagaokocnehaaOpen
namespace Go.Proofs.Ytaoagaokocnehaa
set_option linter.unusedVariables false
set_option linter.unusedSimpArgs false
open Go.RowKit

def opL (f : Nat → Nat → Int) (k : Nat) : List Op3 := (List.range k).map fun i => ⟨f i 0, f i 1, f i 2⟩
theorem opL_length (f : Nat → Nat → Int) (k : Nat) : (opL f k).length = k := by simp [opL]
theorem opL_succ (f : Nat → Nat → Int) (k : Nat) : opL f (k + 1) = opL f k ++ [⟨f k 0, f k 1, f k 2⟩] := by simp [opL, List.range_succ]
theorem foldS_snoc : ∀ (l : List Op3) (s : St) (o : Op3), foldS s (l ++ [o]) = ((stepS (foldS s l).1 o).1, (foldS s l).2 ++ [(stepS (foldS s l).1 o).2])
  | [], s, o => rfl
  | p :: l, s, o => by
    have ih := foldS_snoc l (stepS s p).1 o
    simp only [List.cons_append, foldS, ih]
theorem foldS_length : ∀ (l : List Op3) (s : St), (foldS s l).2.length = l.length
  | [], s => rfl
  | p :: l, s => by simp [foldS, foldS_length l]
theorem may_128 {s : St} (h : mayB s = true) : s.L.length ≤ 128 := by
  rcases (mayB_iff.1 h).2 with ⟨_, h, _⟩ | ⟨_, h, _⟩ | ⟨_, h⟩ | ⟨_, h⟩
  · omega
  · omega
  · exact (pairsB_iff.1 h).2.2
  · exact (pairsB_iff.1 h).2.2
theorem step_300 {s : St} (o : Op3) (h : s.L.length ≤ 300) : (stepS s o).1.L.length ≤ 300 := by
  cases hm : mayB s
  · unfold stepS; rw [if_pos hm]; exact h
  · have := may_128 (step_stays o hm).1; omega
theorem fold_300 : ∀ (l : List Op3) (s : St), s.L.length ≤ 300 → (foldS s l).1.L.length ≤ 300
  | [], s, h => h
  | p :: l, s, h => fold_300 l _ (step_300 p h)

/-- v reads as L; it came in, or it is a row of the program's own, not that of vo. -/
def HeldS (w wr : World) (v : Value) (L : List Int) (vo : Value) : Prop := Rd wr v L ∧ ((∃ L0, Rd w v L0) ∨ (Own wr 3 1 v L.length (ints L) ∧ ∀ g, v.ownBlock = some g → vo.ownBlock ≠ some g))
/-- What a fold knows at a round's head: r the state and the answers so far. -/
def FoldRel (w : World) (r : St × List Int) (vo : Value) (wr : World) : Prop :=
  Below w.heap.size w wr ∧ Fresh w.heap.size vo ∧ Own wr 3 1 vo r.2.length (ints r.2) ∧ Blk wr (w.heap.size + 1) #[.int .i64 0, .slice none 0 0, .bool false, .int .i64 0] 24 ∧
    ∃ vl, Blk wr w.heap.size #[.int .i64 r.1.kind, vl, .bool r.1.isSealed, .int .i64 r.1.to] 24 ∧ HeldS w wr vl r.1.L vo
theorem FoldRel.open {w wr : World} {s : St} {l : List Int} {vo : Value} (h : FoldRel w (s, l) vo wr) : ∃ a c ao co, vo = .slice ao l.length co ∧
    (wr.cell? ⟨w.heap.size, 0, none⟩ = some (.int .i64 s.kind) ∧ wr.cell? ⟨w.heap.size, 1, none⟩ = some (.slice a s.L.length c) ∧ wr.cell? ⟨w.heap.size, 2, none⟩ = some (.bool s.isSealed) ∧ wr.cell? ⟨w.heap.size, 3, none⟩ = some (.int .i64 s.to)) ∧
    (wr.frozen? ⟨w.heap.size, 0, none⟩ = false ∧ wr.frozen? ⟨w.heap.size, 1, none⟩ = false ∧ wr.frozen? ⟨w.heap.size, 2, none⟩ = false ∧ wr.frozen? ⟨w.heap.size, 3, none⟩ = false) ∧ w.heap.size < wr.heap.size ∧
    Rd wr (.slice a s.L.length c) s.L ∧ HeldS w wr (.slice a s.L.length c) s.L vo := by
  obtain ⟨h1, h2, h3, h4, vl, h5, h6⟩ := h
  obtain ⟨a, c, rfl, _⟩ := id h6.1
  obtain ⟨ao, co, e, _⟩ := id (own_rd h3)
  exact ⟨a, c, ao, co, e, ⟨h5.cell 0, h5.cell 1, h5.cell 2, h5.cell 3⟩, ⟨h5.frozen 0, h5.frozen 1, h5.frozen 2, h5.frozen 3⟩, h5.lt, h6.1, h6⟩
theorem FoldRel.start {w : World} {v : Value} (s : St) (hx : Rd w v s.L) : FoldRel w (s, []) (.slice none 0 0) ((w.alloc (.cells #[.int .i64 s.kind, v, .bool s.isSealed, .int .i64 s.to] 24)).alloc (.cells #[.int .i64 0, .slice none 0 0, .bool false, .int .i64 0] 24)) := by
  have hb : Below w.heap.size w ((w.alloc (.cells #[.int .i64 s.kind, v, .bool s.isSealed, .int .i64 s.to] 24)).alloc (.cells #[.int .i64 0, .slice none 0 0, .bool false, .int .i64 0] 24)) := ((Below.refl _ w).alloc (Nat.le_refl _) _).alloc (by simp) _
  have b2 := Blk.new (w.alloc (.cells #[.int .i64 s.kind, v, .bool s.isSealed, .int .i64 s.to] 24)) #[.int .i64 0, .slice none 0 0, .bool false, .int .i64 0] 24
  simp only [World.size_alloc] at b2
  exact ⟨hb, fresh_none, own_nil _, b2, v, (Blk.new w _ _).alloc _, hx.below hb (Nat.le_refl _), .inl ⟨_, hx⟩⟩
/-- Behind a step, in a world that has a box more. -/
structure Mid (w : World) (t : St) (l : List Int) (vo v : Value) (W : World) : Prop where
  bel : Below w.heap.size w W
  fresh : Fresh w.heap.size vo
  own : Own W 3 1 vo l.length (ints l)
  res : Blk W (w.heap.size + 1) #[.int .i64 0, .slice none 0 0, .bool false, .int .i64 0] 24
  box : ∃ cs : Array Value, cs.size = 4 ∧ Blk W w.heap.size cs 24
  held : HeldS w W v t.L vo
theorem FoldRel.mid {w wr W1 w4 : World} {s : St} {l : List Int} {vo v0 v : Value} {t : St} (o : Obj) (h : FoldRel w (s, l) vo wr) (h0 : HeldS w wr v0 s.L vo) (hb : Below wr.heap.size wr W1) (h1 : Rd w4 v t.L) (h2 : Below W1.heap.size W1 w4) (h3 : v = v0 ∨ (Own w4 3 1 v t.L.length (ints t.L) ∧ Fresh W1.heap.size v)) :
    Mid w t l vo v (w4.alloc o) := by
  obtain ⟨g1, g2, g3, g4, vl, g5, g6⟩ := h
  have b4 : Below wr.heap.size wr w4 := hb.trans (h2.mono hb.size)
  have b5 := b4.alloc b4.size o
  have hw := g1.trans (b5.mono g1.size)
  have k5 : Keeps (fun _ => False) wr (w4.alloc o) := Keeps.ofBelow b5
  refine ⟨hw, g2, own_keeps g3 k5 (by simp), g4.below b5 g4.lt, ⟨_, rfl, g5.below b5 g5.lt⟩, ?_⟩
  have h1' := h1.alloc o
  rcases h3 with rfl | ⟨h3, h3'⟩
  · rcases h0.2 with ⟨L0, hL0⟩ | ⟨ho, hs⟩
    · exact ⟨h1', .inl ⟨L0, hL0⟩⟩
    · have ho' := own_keeps ho k5 (by simp)
      have e := rd_inj h1' (own_rd ho')
      rw [e]
      exact ⟨own_rd ho', .inr ⟨ho', hs⟩⟩
  · refine ⟨h1', .inr ⟨own_keeps h3 (Keeps.ofBelow (F := fun _ => False) ((Below.refl _ w4).alloc (Nat.le_refl _) o)) (by simp), fun g hg e => ?_⟩⟩
    have q1 := own_lt g3 e
    have q2 := h3' g hg
    have := hb.size
    omega
/-- The round's end. -/
theorem Mid.end {w W X : World} {t : St} {l : List Int} {vo v vo' : Value} {n : Int} (h : Mid w t l vo v W) (hk : Keeps (fun k => k = w.heap.size ∨ vo.ownBlock = some k) W X) (hB : Blk X w.heap.size #[.int .i64 t.kind, v, .bool t.isSealed, .int .i64 t.to] 24)
    (hO : Own X 3 1 vo' (l.length + 1) (ints l ++ [.int .i64 n])) (hat : ∀ g, vo'.ownBlock = some g → vo.ownBlock = some g ∨ W.heap.size ≤ g) : FoldRel w (t, l ++ [n]) vo' X := by
  obtain ⟨h1, h2, h3, h4, ⟨cs, _, h5⟩, h6⟩ := h
  have hX := h1.trans (hk.below (B := w.heap.size) (by rintro k (rfl | e); exact Nat.le_refl _; exact h2 k e) h1.size)
  have e : ints l ++ [Value.int .i64 n] = ints (l ++ [n]) := by simp [ints]
  rw [e] at hO
  have hlen : l.length + 1 = (l ++ [n]).length := by simp
  rw [hlen] at hO
  refine ⟨hX, fun g hg => ?_, hO, h4.keeps hk (by rintro (e | e); omega; exact own_blk_ne h3 h4 (by decide) e), v, hB, ?_⟩
  · rcases hat g hg with e | e
    · exact h2 g e
    · exact Nat.le_trans h1.size e
  · rcases h6.2 with ⟨L0, hL0⟩ | ⟨ho, hs⟩
    · have e := rd_inj h6.1 (hL0.below h1 (Nat.le_refl _))
      rw [HeldS, e]
      exact ⟨hL0.below hX (Nat.le_refl _), .inl ⟨L0, hL0⟩⟩
    · have ho' := own_keeps ho hk (by
        rintro b hb (rfl | e)
        · exact own_blk_ne ho h5 (by decide) hb
        · exact hs b hb e)
      refine ⟨own_rd ho', .inr ⟨ho', fun g hg e => ?_⟩⟩
      rcases hat g e with e | e
      · exact hs g hg e
      · have := own_lt ho hg; omega
def FoldP (w : World) (r : St × List Int) (e : Ending) (w' : World) : Prop :=
  ∃ vl vo, e = .returned (.tuple #[.agg #[.int .i64 r.1.kind, vl, .bool r.1.isSealed, .int .i64 r.1.to], vo]) ∧ Rd w' vl r.1.L ∧ Rd w' vo r.2 ∧ Below w.heap.size w w'
theorem FoldRel.told {w wr : World} {r : St × List Int} {vo vl : Value} (h : FoldRel w r vo wr) (h0 : HeldS w wr vl r.1.L vo) (v1 v2 v3 v4 : Value) :
    FoldP w r (.returned (.tuple #[.agg #[.int .i64 r.1.kind, vl, .bool r.1.isSealed, .int .i64 r.1.to], vo])) ((((wr.setCell ⟨w.heap.size + 1, 0, none⟩ v1).setCell ⟨w.heap.size + 1, 1, none⟩ v2).setCell ⟨w.heap.size + 1, 2, none⟩ v3).setCell ⟨w.heap.size + 1, 3, none⟩ v4) := by
  obtain ⟨h1, h2, h3, h4, _⟩ := h
  have hk : Keeps (fun k => k = w.heap.size + 1) wr ((((wr.setCell ⟨w.heap.size + 1, 0, none⟩ v1).setCell ⟨w.heap.size + 1, 1, none⟩ v2).setCell ⟨w.heap.size + 1, 2, none⟩ v3).setCell ⟨w.heap.size + 1, 3, none⟩ v4) :=
    ((((Keeps.refl (fun k => k = w.heap.size + 1) wr).set _ 0 (.inl rfl) _).set _ 1 (.inl rfl) _).set _ 2 (.inl rfl) _).set _ 3 (.inl rfl) _
  have hX := h1.trans (hk.below (B := w.heap.size) (by rintro k rfl; omega) h1.size)
  refine ⟨vl, vo, rfl, ?_, own_rd (own_keeps h3 hk fun g hg e => own_blk_ne h3 h4 (by decide) (e ▸ hg)), hX⟩
  rcases h0.2 with ⟨L0, hL0⟩ | ⟨ho, hs⟩
  · have e := rd_inj h0.1 (hL0.below h1 (Nat.le_refl _))
    rw [e]
    exact hL0.below hX (Nat.le_refl _)
  · exact own_rd (own_keeps ho hk fun g hg e => own_blk_ne ho h4 (by decide) (e ▸ hg))
end Go.Proofs.Ytaoagaokocnehaa
