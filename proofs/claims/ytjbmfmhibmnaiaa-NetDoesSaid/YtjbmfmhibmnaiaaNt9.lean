/-
  The layer's awake: the chapter's example.
-/
import Derived.Test.YtjbmfmhibmnaiaaNt8
namespace Go.Proofs.Ytjbmfmhibmnaiaa
set_option linter.unusedVariables false
set_option maxRecDepth 100000
set_option linter.unusedSimpArgs false
open Go.RowKit

/-- What a net's caller goes on with: everything since w is new. -/
theorem NPost.bel {w w1 w2 : World} {T : TypeId} {b : Nat} {vl : Value} {L L' : List (Msg × Value)} (hB : Below w.heap.size w w1) (hn : ∀ k, fpN b vl L k → w.heap.size ≤ k) (h : NPost w1 T b vl L L' w2) :
    ∃ vl', NRep w2 T b vl' L' ∧ Below w.heap.size w w2 ∧ (∀ k, fpN b vl' L' k → w.heap.size ≤ k) ∧ (∀ k, fpN b vl' L' k → fpN b vl L k ∨ w1.heap.size ≤ k) ∧ Keeps (fun k => k = b ∨ vl.ownBlock = some k) w1 w2 := by
  obtain ⟨vl', h1, h2, h3⟩ := h
  refine ⟨vl', h1, hB.trans (h2.below (fun k hk => hn k (hk.imp id .inl)) hB.size), fun k hk => ?_, h3, h2⟩
  rcases h3 k hk with g | g
  · exact hn k g
  · exact Nat.le_trans hB.size g

abbrev mA : Msg := ⟨0, 0, 0, 1, []⟩
abbrev mB : Msg := ⟨0, 0, 0, 2, []⟩
set_option maxRecDepth 100000 in
set_option maxHeartbeats 6400000 in
theorem n_awake (w : World) : Calls Try.prog 18 #[] w fun e w' => e = .returned (.bool true) ∧ Below w.heap.size w w' := by
  have hnil := fun W => rb_nil W
  go_enter Try.func18, Try.ntmps18
  go_wp2_with fail
  refine (n_new w).mono ?_
  rintro e w1 ⟨b, rfl, hb, hN1, hB1⟩
  have hn1 : ∀ k, fpN b (.slice none 0 0) [] k → w.heap.size ≤ k := by
    rintro k (rfl | hk | ⟨x, hx, _⟩)
    · exact hb
    · simp [Value.ownBlock] at hk
    · simp at hx
  go_wp2_with fail
  refine (n_send hN1 mA (v := .slice none 0 0) (hnil _) (by simp) (by simp)).mono ?_
  rintro e w2 ⟨rfl, v1, -, hP2⟩
  obtain ⟨l2, hN2, hB2, hn2, -, -⟩ := hP2.bel hB1 hn1
  clear hN1 hB1 hn1 hP2
  go_wp2_with fail
  refine (n_send hN2 mB (v := .slice none 0 0) (hnil _) (by simp) (by simp)).mono ?_
  rintro e w3 ⟨rfl, v2, -, hP3⟩
  obtain ⟨l3, hN3, hB3, hn3, -, -⟩ := hP3.bel hB2 hn2
  clear hN2 hB2 hn2 hP3
  go_wp2_with fail
  refine (n_double hN3 0 (by intro x hx; simp at hx; rcases hx with rfl | rfl <;> simp) (by simp)).mono ?_
  rintro e w4 ⟨rfl, hP4, -⟩
  obtain ⟨v3, -, hP4⟩ := hP4 rfl
  obtain ⟨l4, hN4, hB4, hn4, -, -⟩ := hP4.bel hB3 hn3
  clear hN3 hB3 hn3 hP4
  have hr4 : (atN (msgs ([] ++ [(mA, v1)] ++ [(mB, v2)])) 0).2 = true := rfl
  rw [hr4]
  have e4 : (atN (msgs ([] ++ [(mA, v1)] ++ [(mB, v2)])) 0).1 = mA := rfl
  rw [e4] at hN4 hn4
  simp only [List.nil_append, List.cons_append] at hN4 hn4
  go_wp2_with fail
  refine (n_len hN4).mono ?_
  rintro e w4 ⟨rfl, rfl⟩
  go_wp2_with fail
  refine (n_take hN4 0 (by intro x hx; simp at hx; rcases hx with rfl | rfl | rfl <;> simp) (by simp)).mono ?_
  rintro e w5 ⟨u5, rfl, hR5, hP5⟩
  obtain ⟨x5, y5, rfl⟩ := own_shape hR5
  have q5 : atN (msgs [(mA, v1), (mB, v2), (mA, v3)]) 0 = (mA, true) := rfl
  rw [q5] at hR5 ⊢
  have r5 : takeN [(mA, v1), (mB, v2), (mA, v3)] 0 = [(mB, v2), (mA, v3)] := rfl
  rw [r5] at hP5
  obtain ⟨l5, hN5x, hB5x, hn5x, hf5, hK5⟩ := hP5.bel hB4 hn4
  have hN5 := hN5x.below ((Below.refl _ w5).alloc (Nat.le_refl _) (.cells (msgB mA (.slice x5 mA.b.length y5)) 48))
  have hB5 := hB5x.alloc hB5x.size (.cells (msgB mA (.slice x5 mA.b.length y5)) 48)
  have hn5 := hn5x
  have hM5 := Blk.new w5 (msgB mA (.slice x5 mA.b.length y5)) 48
  have hL5 : ∀ k, l5.ownBlock = some k → k ≠ w5.heap.size := fun k hk e => by have := own_lt hN5x.own hk; omega
  go_wp2_with fail
  refine (n_take hN5 0 (by intro x hx; simp at hx; rcases hx with rfl | rfl <;> simp) (by simp)).mono ?_
  rintro e w6 ⟨u6, rfl, hR6, hP6⟩
  obtain ⟨x6, y6, rfl⟩ := own_shape hR6
  have q6 : atN (msgs [(mB, v2), (mA, v3)]) 0 = (mB, true) := rfl
  rw [q6] at hR6 ⊢
  have r6 : takeN [(mB, v2), (mA, v3)] 0 = [(mA, v3)] := rfl
  rw [r6] at hP6
  obtain ⟨l6, hN6x, hB6x, hn6x, hf6, hK6⟩ := hP6.bel hB5 hn5
  have hN6 := hN6x.below ((Below.refl _ w6).alloc (Nat.le_refl _) (.cells (msgB mB (.slice x6 mB.b.length y6)) 48))
  have hB6 := hB6x.alloc hB6x.size (.cells (msgB mB (.slice x6 mB.b.length y6)) 48)
  have hn6 := hn6x
  have hM6 := Blk.new w6 (msgB mB (.slice x6 mB.b.length y6)) 48
  have hL6 : ∀ k, l6.ownBlock = some k → k ≠ w6.heap.size := fun k hk e => by have := own_lt hN6x.own hk; omega
  have hL6' : l6.ownBlock ≠ some w5.heap.size := fun e => by
    rcases hf6 _ (.inr (.inl e)) with g | g
    · have := hN5x.lt g; omega
    · simp at g; omega
  have hM5' := ((hM5.keeps hK6 (by
    rintro (e | e)
    · exact blk_ne hN5.blk hM5 (by decide) e.symm
    · exact hL5 _ e rfl)).alloc (.cells (msgB mB (.slice x6 mB.b.length y6)) 48))
  go_wp2_with fail
  refine (n_take hN6 0 (by intro x hx; simp at hx; subst hx; simp) (by simp)).mono ?_
  rintro e w7 ⟨u7, rfl, hR7, hP7⟩
  obtain ⟨x7, y7, rfl⟩ := own_shape hR7
  have q7 : atN (msgs [(mA, v3)]) 0 = (mA, true) := rfl
  rw [q7] at hR7 ⊢
  have r7 : takeN [(mA, v3)] 0 = [] := rfl
  rw [r7] at hP7
  obtain ⟨l7, hN7x, hB7x, hn7x, hf7, hK7⟩ := hP7.bel hB6 hn6
  have hN7 := hN7x.below ((Below.refl _ w7).alloc (Nat.le_refl _) (.cells (msgB mA (.slice x7 mA.b.length y7)) 48))
  have hB7 := hB7x.alloc hB7x.size (.cells (msgB mA (.slice x7 mA.b.length y7)) 48)
  have hn7 := hn7x
  have hM7 := Blk.new w7 (msgB mA (.slice x7 mA.b.length y7)) 48
  have hL7 : ∀ k, l7.ownBlock = some k → k ≠ w7.heap.size := fun k hk e => by have := own_lt hN7x.own hk; omega
  have hM6' := ((hM6.keeps hK7 (by
    rintro (e | e)
    · exact blk_ne hN6.blk hM6 (by decide) e.symm
    · exact hL6 _ e rfl)).alloc (.cells (msgB mA (.slice x7 mA.b.length y7)) 48))
  have hM5'' := ((hM5'.keeps hK7 (by
    rintro (e | e)
    · exact blk_ne hN6.blk hM5' (by decide) e.symm
    · exact hL6' e)).alloc (.cells (msgB mA (.slice x7 mA.b.length y7)) 48))
  have i5 := hM5''.cell 3
  have i6 := hM6'.cell 3
  have i7 := hM7.cell 3
  simp at i5 i6 i7
  go_wp2_with fail
  go_ret
  exact ⟨rfl, hB7⟩
end Go.Proofs.Ytjbmfmhibmnaiaa
