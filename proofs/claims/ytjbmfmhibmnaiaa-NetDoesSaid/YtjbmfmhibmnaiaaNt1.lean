/-
  Package net: owned, New, Len.
-/
import Derived.Test.YtjbmfmhibmnaiaaNtD
namespace Go.Proofs.Ytjbmfmhibmnaiaa
set_option linter.unusedVariables false
set_option maxRecDepth 100000
set_option linter.unusedSimpArgs false
open Go.RowKit

structure Msg where
  f : Int
  t : Int
  k : Int
  i : Int
  b : List Int
  deriving DecidableEq
def noMsg : Msg := ⟨0, 0, 0, 0, []⟩
abbrev msgA (m : Msg) (v : Value) : Value := .agg #[.int .i64 m.f, .int .i64 m.t, .int .i64 m.k, .int .i64 m.i, v]
abbrev msgB (m : Msg) (v : Value) : Array Value := #[.int .i64 m.f, .int .i64 m.t, .int .i64 m.k, .int .i64 m.i, v]
abbrev msgC (m : Msg) (v : Value) : List Value := [.int .i64 m.f, .int .i64 m.t, .int .i64 m.k, .int .i64 m.i, v]
def rowC (L : List (Msg × Value)) : List Value := L.flatMap fun x => msgC x.1 x.2
theorem rowC_len (L : List (Msg × Value)) : (rowC L).length = L.length * 5 := by
  unfold rowC
  induction L with
  | nil => rfl
  | cons r l ih => simp [List.flatMap_cons, ih]; omega
theorem rowC_append (L M : List (Msg × Value)) : rowC (L ++ M) = rowC L ++ rowC M := by simp [rowC, List.flatMap_append]
theorem rowC_at (L : List (Msg × Value)) : ∀ i, i < L.length → ∀ j, j < 5 → (rowC L)[i * 5 + j]? = (msgC (L.getD i (noMsg, .slice none 0 0)).1 (L.getD i (noMsg, .slice none 0 0)).2)[j]? := by
  induction L with
  | nil => intro i h; simp at h
  | cons r l ih =>
    intro i hi j hj
    have e : rowC (r :: l) = msgC r.1 r.2 ++ rowC l := by simp [rowC, List.flatMap_cons]
    rcases i with _ | i
    · rw [e, List.getElem?_append_left (by simp; omega)]
      simp
    · rw [e, List.getElem?_append_right (by simp; omega)]
      have := ih i (by simpa using hi) j hj
      rw [show (i + 1) * 5 + j - (msgC r.1 r.2).length = i * 5 + j by simp; omega, this]
      simp
theorem rowC_take (L : List (Msg × Value)) (i : Nat) : (rowC L).take (i * 5) = rowC (L.take i) := by
  induction L generalizing i with
  | nil => simp [rowC]
  | cons r l ih =>
    have e : rowC (r :: l) = msgC r.1 r.2 ++ rowC l := by simp [rowC, List.flatMap_cons]
    rcases i with _ | i
    · simp [rowC]
    · have e2 : rowC ((r :: l).take (i + 1)) = msgC r.1 r.2 ++ rowC (l.take i) := by simp [rowC, List.flatMap_cons]
      rw [e, e2, ← ih, show (i + 1) * 5 = (msgC r.1 r.2).length + i * 5 by simp; omega, List.take_length_add_append]
theorem rowC_drop (L : List (Msg × Value)) (i : Nat) : (rowC L).drop (i * 5) = rowC (L.drop i) := by
  induction L generalizing i with
  | nil => simp [rowC]
  | cons r l ih =>
    have e : rowC (r :: l) = msgC r.1 r.2 ++ rowC l := by simp [rowC, List.flatMap_cons]
    rcases i with _ | i
    · simp
    · rw [e, show (r :: l).drop (i + 1) = l.drop i by simp, ← ih, show (i + 1) * 5 = (msgC r.1 r.2).length + i * 5 by simp; omega, List.drop_length_add_append]
/-- A value that is a slice. -/
def IsSl (v : Value) : Prop := ∃ a n c, v = .slice a n c
theorem rowC_one (L : List (Msg × Value)) (h : ∀ x ∈ L, IsSl x.2) : ∀ u ∈ rowC L, u.oneCell' = true := by
  intro u hu
  obtain ⟨x, hx, hu⟩ := List.mem_flatMap.1 hu
  obtain ⟨a, n, c, e⟩ := h x hx
  simp only [msgC, List.mem_cons, List.not_mem_nil, or_false] at hu
  rcases hu with rfl | rfl | rfl | rfl | rfl
  · rfl
  · rfl
  · rfl
  · rfl
  · rw [e]; rfl

def OwnedP (w : World) (m : Msg) (e : Ending) (w' : World) : Prop :=
  ∃ v', e = .returned (msgA m v') ∧ Own w' 5 1 v' m.b.length (byt m.b) ∧ (∀ k, v'.ownBlock = some k → w.heap.size ≤ k) ∧ Below w.heap.size w w'

set_option maxRecDepth 100000 in
set_option maxHeartbeats 1600000 in
theorem n_owned {w : World} {v : Value} (m : Msg) (h : Rb w v m.b) (hl : m.b.length ≤ 17592186044416) :
    Calls Try.prog 37 #[msgA m v] w (OwnedP w m) := by
  obtain ⟨a, c, rfl, -⟩ := id h
  have hb2 : Below w.heap.size w ((w.alloc (.cells #[.int .i64 m.f, .int .i64 m.t, .int .i64 m.k, .int .i64 m.i, .slice a m.b.length c] 48)).alloc (.cells #[.int .i64 0, .int .i64 0, .int .i64 0, .int .i64 0, .slice none 0 0] 48)) := ((Below.refl _ _).alloc (Nat.le_refl _) _).alloc (by simp) _
  have hB2 := (Blk.new w #[.int .i64 m.f, .int .i64 m.t, .int .i64 m.k, .int .i64 m.i, .slice a m.b.length c] 48).alloc (.cells #[.int .i64 0, .int .i64 0, .int .i64 0, .int .i64 0, .slice none 0 0] 48)
  have hZ2 := Blk.new (w.alloc (.cells #[.int .i64 m.f, .int .i64 m.t, .int .i64 m.k, .int .i64 m.i, .slice a m.b.length c] 48)) #[.int .i64 0, .int .i64 0, .int .i64 0, .int .i64 0, .slice none 0 0] 48
  rw [World.size_alloc] at hZ2
  have hC := sl_bclone (h.below hb2 (Nat.le_refl _)) hl
  have b4 : ((w.alloc (.cells #[.int .i64 m.f, .int .i64 m.t, .int .i64 m.k, .int .i64 m.i, .slice a m.b.length c] 48)).alloc (.cells #[.int .i64 0, .int .i64 0, .int .i64 0, .int .i64 0, .slice none 0 0] 48)).cell? ⟨w.heap.size, 4, none⟩ = some (.slice a m.b.length c) := hB2.cell 4
  have HC := Lib.hid hC
  have HB := Lib.hid hb2
  have HB2 := Lib.hid hB2
  have HZ2 := Lib.hid hZ2
  clear hC hb2 hB2 hZ2 h
  go_enter Try.func37, Try.ntmps37
  go_wp2_with (go_at_call 39; refine HC.out.mono ?_; rintro e w3 ⟨v', rfl, ho, hf, hb⟩; obtain ⟨a3, c3, rfl⟩ := own_shape ho; have hB3 := HB2.out.below hb HB2.out.lt; have hZ3 := HZ2.out.below hb HZ2.out.lt; have q0 := hB3.cell 0; have q1 := hB3.cell 1; have q2 := hB3.cell 2; have q3 := hB3.cell 3; have q4 := hB3.cell 4; have fq4 := hB3.frozen 4; have z0 := hZ3.cell 0; have z1 := hZ3.cell 1; have z2 := hZ3.cell 2; have z3 := hZ3.cell 3; have z4 := hZ3.cell 4; simp at q0 q1 q2 q3 q4 z0 z1 z2 z3 z4; have fz0 := hZ3.frozen 0; have fz1 := hZ3.frozen 1; have fz2 := hZ3.frozen 2; have fz3 := hZ3.frozen 3; have fz4 := hZ3.frozen 4; have HO := Lib.hid ho; have HF := Lib.hid hf; have HBB := Lib.hid hb; have HB3 := Lib.hid hB3; have HZ3 := Lib.hid hZ3; clear ho hf hb hB3 hZ3 b4)
  refine bodyPost_ret (v := msgA m (.slice a3 m.b.length c3)) ?_ rfl ?_
  · simp [results, Try.results37, go_sem, z0, z1, z2, z3, z4]
  · have hb3 := HB.out.trans (HBB.out.mono HB.out.size)
    have o5 := own_set HO.out HB3.out (by decide) 4 (.slice a3 m.b.length c3)
    have hne : w.heap.size + 1 ≠ w.heap.size := by omega
    have Z5 := HZ3.out.other (a := ⟨w.heap.size, 4, none⟩) hne (.slice a3 m.b.length c3)
    have o6 := own_set o5 Z5 (by decide) 0 (.int .i64 m.f)
    have Z6 := Z5.set 0 (.int .i64 m.f)
    have o7 := own_set o6 Z6 (by decide) 1 (.int .i64 m.t)
    have Z7 := Z6.set 1 (.int .i64 m.t)
    have o8 := own_set o7 Z7 (by decide) 2 (.int .i64 m.k)
    have Z8 := Z7.set 2 (.int .i64 m.k)
    have o9 := own_set o8 Z8 (by decide) 3 (.int .i64 m.i)
    have Z9 := Z8.set 3 (.int .i64 m.i)
    have o10 := own_set o9 Z9 (by decide) 4 (.slice a3 m.b.length c3)
    have Z10 := Z9.set 4 (.slice a3 m.b.length c3)
    have s3 := HBB.out.size
    have k : Keeps (fun _ => False) w w3 := Keeps.ofBelow hb3
    have k2 := ((((((k.set w.heap.size 4 (.inr (Nat.le_refl _)) (.slice a3 m.b.length c3)).set (w.heap.size + 1) 0 (.inr (by omega)) (.int .i64 m.f)).set (w.heap.size + 1) 1 (.inr (by omega)) (.int .i64 m.t)).set (w.heap.size + 1) 2 (.inr (by omega)) (.int .i64 m.k)).set (w.heap.size + 1) 3 (.inr (by omega)) (.int .i64 m.i)).set (w.heap.size + 1) 4 (.inr (by omega)) (.slice a3 m.b.length c3))
    refine ⟨_, rfl, o10, fun q hq => ?_, k2.below (fun _ h => h.elim) (Nat.le_refl _)⟩
    have := HF.out q hq
    simp at this
    omega
end Go.Proofs.Ytjbmfmhibmnaiaa
