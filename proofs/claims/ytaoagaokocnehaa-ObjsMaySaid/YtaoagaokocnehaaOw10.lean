/-
  Package objs: the walks of Fits, Same, Start.
-/
import Derived.Test.YtaoagaokocnehaaOw4
namespace Go.Proofs.Ytaoagaokocnehaa
set_option linter.unusedVariables false
set_option linter.unusedSimpArgs false
open Go.RowKit

set_option maxRecDepth 100000 in
set_option maxHeartbeats 3200000 in
theorem o_fits {w : World} (o : Op3) : Calls Try.prog 25 #[.agg #[.int .i64 o.code, .int .i64 o.a, .int .i64 o.b]] w (Tells w (fitsB o)) := by
  obtain ⟨co, oa, ob⟩ := o
  have C1 := fun W => Lib.hid (o_cut oa W)
  have C2 := fun W => Lib.hid (o_cut ob W)
  have e : fitsB ⟨co, oa, ob⟩ = (decide (0 ≤ co) && decide (co ≤ 10) && (oa == cutI oa) && (ob == cutI ob)) := rfl
  rw [e]
  clear e
  generalize cutI oa = y at *
  generalize cutI ob = z at *
  have fin : ∀ q, Below w.heap.size w ((w.alloc (.cells #[.int .i64 co, .int .i64 oa, .int .i64 ob] 26)).drewN q) := fun q => ((Below.refl _ w).alloc (Nat.le_refl _) _).trans ⟨rfl, rfl, rfl, Nat.le_refl _, fun _ _ => rfl⟩
  have HF := Lib.hid fin
  clear fin
  have cs : (0 ≤ co ∧ co ≤ 10 ∧ (oa == y) = true ∧ (ob == z) = true) ∨ (0 ≤ co ∧ co ≤ 10 ∧ (oa == y) = true ∧ (ob == z) = false) ∨ (0 ≤ co ∧ co ≤ 10 ∧ (oa == y) = false) ∨ (0 ≤ co ∧ ¬ co ≤ 10) ∨ ¬ 0 ≤ co := by
    by_cases h1 : 0 ≤ co
    · by_cases h2 : co ≤ 10
      · cases h3 : (oa == y)
        · exact .inr (.inr (.inl ⟨h1, h2, rfl⟩))
        · cases h4 : (ob == z)
          · exact .inr (.inl ⟨h1, h2, rfl, rfl⟩)
          · exact .inl ⟨h1, h2, rfl, rfl⟩
      · exact .inr (.inr (.inr (.inl ⟨h1, h2⟩)))
    · exact .inr (.inr (.inr (.inr h1)))
  have key : ∀ r : Bool, r = (decide (0 ≤ co) && decide (co ≤ 10) && (oa == y) && (ob == z)) → Calls Try.prog 25 #[.agg #[.int .i64 co, .int .i64 oa, .int .i64 ob]] w (Tells w r) := by
    intro r hr
    have HR := Lib.hid hr
    rcases cs with ⟨h1, h2, h3, h4⟩ | ⟨h1, h2, h3, h4⟩ | ⟨h1, h2, h3⟩ | ⟨h1, h2⟩ | h1
    · obtain rfl : r = true := by rw [hr, h3, h4]; simp [h1, h2]
      clear hr HR
      go_enter Try.func25, Try.ntmps25
      go_wp2_with fail
      go_quiet (first | (go_at_call 37; first | with_reducible exact Calls.quiet_of_same (C1 _).out | with_reducible exact Calls.quiet_of_same (C2 _).out))
      go_wp2_with fail
      go_ret
      exact ⟨rfl, HF.out _⟩
    all_goals
      obtain rfl : r = false := by rw [hr]; first | rw [h3, h4]; simp | rw [h3]; simp | simp [h1, h2] | simp [h1] | (simp; intros; omega)
      clear hr HR
      try have g1 := decide_eq_false h1
      try have g2 := decide_eq_false h2
      go_enter Try.func25, Try.ntmps25
      go_wp2_with fail
      go_quiet (first | (go_at_call 37; first | with_reducible exact Calls.quiet_of_same (C1 _).out | with_reducible exact Calls.quiet_of_same (C2 _).out))
      go_wp2_with fail
      go_ret
      exact ⟨rfl, HF.out _⟩
  exact key _ rfl

/-- Are two states the same? -/
def sameB (s t : St) : Bool := (s.kind == t.kind) && (s.isSealed == t.isSealed) && (s.to == t.to) && (s.L == t.L)

theorem own_nil (w : World) : Own w 3 1 (.slice none 0 0) 0 [] := ⟨rfl, .inl ⟨rfl, rfl⟩⟩

/-- A state is told. -/
def StateP (w : World) (s : St) (e : Ending) (w' : World) : Prop :=
  ∃ vl, e = .returned (.agg #[.int .i64 s.kind, vl, .bool s.isSealed, .int .i64 s.to]) ∧ Rd w' vl s.L ∧ Below w.heap.size w w' ∧ Own w' 3 1 vl s.L.length (ints s.L)

set_option maxRecDepth 100000 in
set_option maxHeartbeats 3200000 in
theorem o_start {w : World} (kind : Int) : Calls Try.prog 16 #[.int .i64 kind] w (StateP w (startS kind)) := by
  have one : ∀ (k : Int), StateP w ⟨k, [0], false, 0⟩ (.returned (.agg #[.int .i64 k, .slice (some ⟨w.heap.size + 1, 0, none⟩) 1 1, .bool false, .int .i64 0])) ((w.alloc (.cells #[.int .i64 k, .slice (some ⟨w.heap.size + 1, 0, none⟩) 1 1, .bool false, .int .i64 0] 24)).alloc (.cells #[.int .i64 0] 3)) := by
    intro k
    have h := own_lit (w.alloc (.cells #[.int .i64 k, .slice (some ⟨w.heap.size + 1, 0, none⟩) 1 1, .bool false, .int .i64 0] 24)) 3 (ints [0]) (by simp [ints, maxLen])
    rw [World.size_alloc] at h
    exact ⟨_, rfl, own_rd (n := 1) h, ((Below.refl _ w).alloc (Nat.le_refl _) _).alloc (by simp) _, h⟩
  have none : ∀ (k : Int), StateP w ⟨k, [], false, 0⟩ (.returned (.agg #[.int .i64 k, .slice .none 0 0, .bool false, .int .i64 0])) (w.alloc (.cells #[.int .i64 k, .slice .none 0 0, .bool false, .int .i64 0] 24)) := fun k =>
    ⟨_, rfl, rd_nil _, (Below.refl _ w).alloc (Nat.le_refl _) _, own_nil _⟩
  have H1 := Lib.hid one
  have H2 := Lib.hid none
  clear one none
  have cs : kind = 0 ∨ kind = 1 ∨ kind = 2 ∨ kind = 3 ∨ kind = 4 ∨ kind = 5 ∨ ((kind == 0) = false ∧ (kind == 1) = false ∧ (kind == 2) = false ∧ (kind == 3) = false ∧ (kind == 4) = false ∧ (kind == 5) = false) := by
    simp only [beq_eq_false_iff_ne]; omega
  rcases cs with rfl | rfl | rfl | rfl | rfl | rfl | ⟨h0, h1, h2, h3, h4, h5⟩
  · have hr : startS 0 = ⟨0, [0], false, 0⟩ := rfl
    rw [hr]
    go_enter Try.func16, Try.ntmps16
    go_wp2_with fail
    refine bodyPost_ret (v := .agg #[.int .i64 0, .slice (some ⟨w.heap.size + 1, 0, .none⟩) 1 1, .bool false, .int .i64 0]) ?_ rfl (H1.out 0)
    simp [results, Try.results16, go_sem]
  · have hr : startS 1 = ⟨1, [0], false, 0⟩ := rfl
    rw [hr]
    go_enter Try.func16, Try.ntmps16
    go_wp2_with fail
    refine bodyPost_ret (v := .agg #[.int .i64 1, .slice (some ⟨w.heap.size + 1, 0, .none⟩) 1 1, .bool false, .int .i64 0]) ?_ rfl (H1.out 1)
    simp [results, Try.results16, go_sem]
  · have hr : startS 2 = ⟨2, [], false, 0⟩ := rfl
    rw [hr]
    go_enter Try.func16, Try.ntmps16
    go_wp2_with fail
    refine bodyPost_ret (v := .agg #[.int .i64 2, .slice .none 0 0, .bool false, .int .i64 0]) ?_ rfl (H2.out 2)
    simp [results, Try.results16, go_sem]
  · have hr : startS 3 = ⟨3, [], false, 0⟩ := rfl
    rw [hr]
    go_enter Try.func16, Try.ntmps16
    go_wp2_with fail
    refine bodyPost_ret (v := .agg #[.int .i64 3, .slice .none 0 0, .bool false, .int .i64 0]) ?_ rfl (H2.out 3)
    simp [results, Try.results16, go_sem]
  · have hr : startS 4 = ⟨4, [], false, 0⟩ := rfl
    rw [hr]
    go_enter Try.func16, Try.ntmps16
    go_wp2_with fail
    refine bodyPost_ret (v := .agg #[.int .i64 4, .slice .none 0 0, .bool false, .int .i64 0]) ?_ rfl (H2.out 4)
    simp [results, Try.results16, go_sem]
  · have hr : startS 5 = ⟨5, [], false, 0⟩ := rfl
    rw [hr]
    go_enter Try.func16, Try.ntmps16
    go_wp2_with fail
    refine bodyPost_ret (v := .agg #[.int .i64 5, .slice .none 0 0, .bool false, .int .i64 0]) ?_ rfl (H2.out 5)
    simp [results, Try.results16, go_sem]
  · have hr : startS kind = ⟨0, [], false, 0⟩ := by
      simp only [beq_eq_false_iff_ne] at h0 h1 h2 h3 h4 h5
      unfold startS; rw [if_neg (by omega), if_neg (by omega)]
    rw [hr]
    go_enter Try.func16, Try.ntmps16
    go_wp2_with fail
    refine bodyPost_ret (v := .agg #[.int .i64 0, .slice .none 0 0, .bool false, .int .i64 0]) ?_ rfl (H2.out 0)
    simp [results, Try.results16, go_sem]

set_option maxRecDepth 100000 in
set_option maxHeartbeats 3200000 in
theorem o_same {w : World} {vl ul : Value} (s t : St) (hx : Rd w vl s.L) (hy : Rd w ul t.L) :
    Calls Try.prog 21 #[.agg #[.int .i64 s.kind, vl, .bool s.isSealed, .int .i64 s.to], .agg #[.int .i64 t.kind, ul, .bool t.isSealed, .int .i64 t.to]] w (Tells w (sameB s t)) := by
  obtain ⟨k, L, b, d⟩ := s
  obtain ⟨k', L', b', d'⟩ := t
  simp only at hx hy ⊢
  have hB : Below w.heap.size w ((w.alloc (.cells #[.int .i64 k, vl, .bool b, .int .i64 d] 24)).alloc (.cells #[.int .i64 k', ul, .bool b', .int .i64 d'] 24)) := ((Below.refl _ w).alloc (Nat.le_refl _) _).alloc (by simp) _
  have HE := Lib.hid (sl_equal (w := (w.alloc (.cells #[.int .i64 k, vl, .bool b, .int .i64 d] 24)).alloc (.cells #[.int .i64 k', ul, .bool b', .int .i64 d'] 24)) (hx.below hB (Nat.le_refl _)) (hy.below hB (Nat.le_refl _)))
  have hW := Lib.hid hB
  obtain ⟨a, c, rfl, _⟩ := id hx
  obtain ⟨a', c', rfl, _⟩ := id hy
  have e : sameB ⟨k, L, b, d⟩ ⟨k', L', b', d'⟩ = ((k == k') && (b == b') && (d == d') && decide (L = L')) := by
    unfold sameB; simp only
    congr 1
    by_cases h : L = L' <;> simp [h]
  rw [e]
  clear e hx hy hB
  generalize decide (L = L') = q at *
  cases h1 : (k == k')
  · go_enter Try.func21, Try.ntmps21
    go_wp2_with fail
    go_ret
    exact ⟨rfl, hW.out⟩
  cases h3 : (d == d')
  · cases b <;> cases b'
    all_goals
      go_enter Try.func21, Try.ntmps21
      go_wp2_with fail
      go_ret
      exact ⟨rfl, hW.out⟩
  cases b <;> cases b'
  all_goals
    go_enter Try.func21, Try.ntmps21
    go_wp2_with fail
  · refine HE.out.mono ?_
    rintro e w1 ⟨rfl, hb⟩
    have HB := Lib.hid hb
    clear hb
    go_wp2_with fail
    go_ret
    exact ⟨rfl, hW.out.trans (HB.out.mono (by simp; omega))⟩
  · go_ret
    exact ⟨rfl, hW.out⟩
  · go_ret
    exact ⟨rfl, hW.out⟩
  · refine HE.out.mono ?_
    rintro e w1 ⟨rfl, hb⟩
    have HB := Lib.hid hb
    clear hb
    go_wp2_with fail
    go_ret
    exact ⟨rfl, hW.out.trans (HB.out.mono (by simp; omega))⟩
end Go.Proofs.Ytaoagaokocnehaa
