/-
  Layer 4, the document's answer: Start.
-/
import Derived.Test.YtaoagaokocnehaaOw10
namespace Go.Proofs.Ytaoagaokocnehaa
set_option linter.unusedVariables false
set_option linter.unusedSimpArgs false
open Go.RowKit

set_option maxRecDepth 100000 in
set_option maxHeartbeats 3200000 in
theorem r_start {w : World} (kind : Int) : Calls Try.prog 23 #[.int .i64 kind] w (StateP w (startS kind)) := by
  have one : ∀ (k : Int), StateP w ⟨k, [0], false, 0⟩ (.returned (.agg #[.int .i64 k, .slice (some ⟨w.heap.size + 1 + 1, 0, none⟩) 1 1, .bool false, .int .i64 0])) (((w.alloc (.cells #[.int .i64 k, .slice (some ⟨w.heap.size + 1 + 1, 0, none⟩) 1 1, .bool false, .int .i64 0] 24)).alloc (.cells #[.int .i64 k, .slice (some ⟨w.heap.size + 1 + 1, 0, none⟩) 1 1, .bool false, .int .i64 0] 24)).alloc (.cells #[.int .i64 0] 3)) := by
    intro k
    have h := own_lit ((w.alloc (.cells #[.int .i64 k, .slice (some ⟨w.heap.size + 1 + 1, 0, none⟩) 1 1, .bool false, .int .i64 0] 24)).alloc (.cells #[.int .i64 k, .slice (some ⟨w.heap.size + 1 + 1, 0, none⟩) 1 1, .bool false, .int .i64 0] 24)) 3 (ints [0]) (by simp [ints, maxLen])
    rw [World.size_alloc, World.size_alloc] at h
    exact ⟨_, rfl, own_rd (n := 1) h, below3 w _ _ _, h⟩
  have none : ∀ (k : Int) (o1 o2 : Obj), StateP w ⟨k, [], false, 0⟩ (.returned (.agg #[.int .i64 k, .slice .none 0 0, .bool false, .int .i64 0])) ((w.alloc o1).alloc o2) := fun k o1 o2 =>
    ⟨_, rfl, rd_nil _, ((Below.refl _ w).alloc (Nat.le_refl _) _).alloc (by simp) _, own_nil _⟩
  have none1 : ∀ (o1 : Obj), StateP w ⟨0, [], false, 0⟩ (.returned (.agg #[.int .i64 0, .slice .none 0 0, .bool false, .int .i64 0])) (w.alloc o1) := fun o1 =>
    ⟨_, rfl, rd_nil _, (Below.refl _ w).alloc (Nat.le_refl _) _, own_nil _⟩
  have H1 := Lib.hid one
  have H2 := Lib.hid none
  have H3 := Lib.hid none1
  clear one none none1
  have cs : kind = 0 ∨ kind = 1 ∨ (1 < kind ∧ kind < 6) ∨ kind < 0 ∨ 6 ≤ kind := by omega
  rcases cs with rfl | rfl | ⟨h1, h2⟩ | h1 | h1
  · have hr : startS 0 = ⟨0, [0], false, 0⟩ := rfl
    rw [hr]
    go_enter Try.func23, Try.ntmps23
    go_wp2_with fail
    refine bodyPost_ret (v := .agg #[.int .i64 0, .slice (some ⟨w.heap.size + 1 + 1, 0, none⟩) 1 1, .bool false, .int .i64 0]) ?_ rfl (H1.out 0)
    simp [results, Try.results23, go_sem]
  · have hr : startS 1 = ⟨1, [0], false, 0⟩ := rfl
    rw [hr]
    go_enter Try.func23, Try.ntmps23
    go_wp2_with fail
    refine bodyPost_ret (v := .agg #[.int .i64 1, .slice (some ⟨w.heap.size + 1 + 1, 0, none⟩) 1 1, .bool false, .int .i64 0]) ?_ rfl (H1.out 1)
    simp [results, Try.results23, go_sem]
  · have hr : startS kind = ⟨kind, [], false, 0⟩ := by
      unfold startS
      rw [if_neg (by omega), if_pos (by omega)]
    rw [hr]
    have k0 : (kind == 0) = false := by simp; omega
    have k1 : (kind == 1) = false := by simp; omega
    clear hr
    go_enter Try.func23, Try.ntmps23
    go_wp2_with fail
    refine bodyPost_ret (v := .agg #[.int .i64 kind, .slice .none 0 0, .bool false, .int .i64 0]) ?_ rfl (H2.out _ _ _)
    simp [results, Try.results23, go_sem]
  · have hr : startS kind = ⟨0, [], false, 0⟩ := by
      unfold startS
      rw [if_neg (by omega), if_neg (by omega)]
    rw [hr]
    clear hr
    go_enter Try.func23, Try.ntmps23
    go_wp2_with fail
    refine bodyPost_ret (v := .agg #[.int .i64 0, .slice .none 0 0, .bool false, .int .i64 0]) ?_ rfl (H3.out _)
    simp [results, Try.results23, go_sem]
  · have hr : startS kind = ⟨0, [], false, 0⟩ := by
      unfold startS
      rw [if_neg (by omega), if_neg (by omega)]
    rw [hr]
    clear hr
    go_enter Try.func23, Try.ntmps23
    go_wp2_with fail
    refine bodyPost_ret (v := .agg #[.int .i64 0, .slice .none 0 0, .bool false, .int .i64 0]) ?_ rfl (H3.out _)
    simp [results, Try.results23, go_sem]
end Go.Proofs.Ytaoagaokocnehaa
