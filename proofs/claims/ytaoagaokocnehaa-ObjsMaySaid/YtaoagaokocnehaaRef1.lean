/-
  Layer 4, the document's answer: cut, Fits.
-/
import Derived.Test.YtaoagaokocnehaaOw4
namespace Go.Proofs.Ytaoagaokocnehaa
set_option linter.unusedVariables false
set_option linter.unusedSimpArgs false
open Go.RowKit

theorem r_cut (n : Int) (w : World) : Calls Try.prog 41 #[.int .i64 n] w fun e w' => e = .returned (.int .i64 (cutI n)) ∧ w' = w := by
  by_cases h1 : n < -1099511627776
  · have hc : cutI n = -1099511627776 := by unfold cutI; rw [if_pos h1]
    rw [hc]
    clear hc
    have h2 : n ≤ 1099511627776 := by omega
    go_enter Try.func41, Try.ntmps41
    go_wp2
    all_goals first | (exfalso; omega) | (go_ret; exact ⟨rfl, rfl⟩) | (go_ret; exact ⟨ret_i64 (by omega), rfl⟩)
  · by_cases h2 : 1099511627776 < n
    · have hc : cutI n = 1099511627776 := by unfold cutI; rw [if_neg h1, if_pos h2]
      rw [hc]
      clear hc
      go_enter Try.func41, Try.ntmps41
      go_wp2
      all_goals first | (exfalso; omega) | (go_ret; exact ⟨rfl, rfl⟩) | (go_ret; exact ⟨ret_i64 (by omega), rfl⟩)
    · have hc : cutI n = n := by unfold cutI; rw [if_neg h1, if_neg h2]
      rw [hc]
      clear hc
      go_enter Try.func41, Try.ntmps41
      go_wp2
      all_goals first | (exfalso; omega) | (go_ret; exact ⟨rfl, rfl⟩) | (go_ret; exact ⟨ret_i64 (by omega), rfl⟩)

set_option maxRecDepth 100000 in
set_option maxHeartbeats 3200000 in
theorem r_fits {w : World} (o : Op3) : Calls Try.prog 26 #[.agg #[.int .i64 o.code, .int .i64 o.a, .int .i64 o.b]] w (Tells w (fitsB o)) := by
  obtain ⟨co, oa, ob⟩ := o
  have C1 := fun W => Lib.hid (r_cut oa W)
  have C2 := fun W => Lib.hid (r_cut ob W)
  have e : fitsB ⟨co, oa, ob⟩ = (decide (0 ≤ co) && decide (co ≤ 10) && (oa == cutI oa) && (ob == cutI ob)) := rfl
  rw [e]
  clear e
  generalize cutI oa = y at *
  generalize cutI ob = z at *
  have fin : ∀ q, Below w.heap.size w ((w.alloc (.cells #[.int .i64 co, .int .i64 oa, .int .i64 ob] 26)).drewN q) := fun q => ((Below.refl _ w).alloc (Nat.le_refl _) _).trans ⟨rfl, rfl, rfl, Nat.le_refl _, fun _ _ => rfl⟩
  have HF := Lib.hid fin
  clear fin
  have cs : (0 ≤ co ∧ co ≤ 10 ∧ (oa == y) = true ∧ (ob == z) = true) ∨ (0 ≤ co ∧ co ≤ 10 ∧ (oa == y) = true ∧ (ob == z) = false) ∨ (0 ≤ co ∧ co ≤ 10 ∧ (oa == y) = false) ∨ (0 ≤ co ∧ ¬ co ≤ 10) ∨ ¬ 0 ≤ co := by
    by_cases h1 : 0 ≤ co
    · by_cases h2 : co ≤ 10
      · cases h3 : (oa == y)
        · exact .inr (.inr (.inl ⟨h1, h2, rfl⟩))
        · cases h4 : (ob == z)
          · exact .inr (.inl ⟨h1, h2, rfl, rfl⟩)
          · exact .inl ⟨h1, h2, rfl, rfl⟩
      · exact .inr (.inr (.inr (.inl ⟨h1, h2⟩)))
    · exact .inr (.inr (.inr (.inr h1)))
  have key : ∀ r : Bool, r = (decide (0 ≤ co) && decide (co ≤ 10) && (oa == y) && (ob == z)) → Calls Try.prog 26 #[.agg #[.int .i64 co, .int .i64 oa, .int .i64 ob]] w (Tells w r) := by
    intro r hr
    have HR := Lib.hid hr
    rcases cs with ⟨h1, h2, h3, h4⟩ | ⟨h1, h2, h3, h4⟩ | ⟨h1, h2, h3⟩ | ⟨h1, h2⟩ | h1
    · obtain rfl : r = true := by rw [hr, h3, h4]; simp [h1, h2]
      clear hr HR
      go_enter Try.func26, Try.ntmps26
      go_wp2_with fail
      go_quiet (first | (go_at_call 41; first | with_reducible exact Calls.quiet_of_same (C1 _).out | with_reducible exact Calls.quiet_of_same (C2 _).out))
      go_wp2_with fail
      go_ret
      exact ⟨rfl, HF.out _⟩
    all_goals
      obtain rfl : r = false := by rw [hr]; first | rw [h3, h4]; simp | rw [h3]; simp | simp [h1, h2] | simp [h1] | (simp; intros; omega)
      clear hr HR
      try have g1 := decide_eq_false h1
      try have g2 := decide_eq_false h2
      go_enter Try.func26, Try.ntmps26
      go_wp2_with fail
      go_quiet (first | (go_at_call 41; first | with_reducible exact Calls.quiet_of_same (C1 _).out | with_reducible exact Calls.quiet_of_same (C2 _).out))
      go_wp2_with fail
      go_ret
      exact ⟨rfl, HF.out _⟩
  exact key _ rfl

end Go.Proofs.Ytaoagaokocnehaa
