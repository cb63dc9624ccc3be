/-
  Layer 4, the document's answer: Same.
-/
import Derived.Test.YtaoagaokocnehaaOw10
namespace Go.Proofs.Ytaoagaokocnehaa
set_option linter.unusedVariables false
set_option linter.unusedSimpArgs false
open Go.RowKit

set_option maxRecDepth 100000 in
set_option maxHeartbeats 3200000 in
theorem r_same {w : World} {vl ul : Value} (s t : St) (hx : Rd w vl s.L) (hy : Rd w ul t.L) :
    Calls Try.prog 15 #[.agg #[.int .i64 s.kind, vl, .bool s.isSealed, .int .i64 s.to], .agg #[.int .i64 t.kind, ul, .bool t.isSealed, .int .i64 t.to]] w (Tells w (sameB s t)) := by
  obtain ⟨kd, xs, b, d⟩ := s
  obtain ⟨kd', ys, b', d'⟩ := t
  simp only at hx hy ⊢
  have hB : ∀ q, Below w.heap.size w (((w.alloc (.cells #[.int .i64 kd, vl, .bool b, .int .i64 d] 24)).alloc (.cells #[.int .i64 kd', ul, .bool b', .int .i64 d'] 24)).drewN q) := fun q => (((Below.refl _ w).alloc (Nat.le_refl _) _).alloc (by simp) _).trans ⟨rfl, rfl, rfl, Nat.le_refl _, fun _ _ => rfl⟩
  have HB := Lib.hid hB
  have HB0 := Lib.hid (hB 0)
  obtain ⟨n, a, c, f, rfl, hn, hnc, hcm, hf, hv⟩ := hx.view
  obtain ⟨m, a2, c2, g, rfl, hm, hmc, hcm2, hg, hv2⟩ := hy.view
  clear hx hy hB
  have e : sameB ⟨kd, xs, b, d⟩ ⟨kd', ys, b', d'⟩ = ((kd == kd') && (b == b') && (d == d') && decide (xs = ys)) := by
    unfold sameB; simp only
    congr 1
    by_cases h : xs = ys <;> simp [h]
  rw [e]
  clear e
  have HV := Lib.hid hv
  have HV2 := Lib.hid hv2
  have HN := Lib.hid hn
  have HM := Lib.hid hm
  have HF := Lib.hid hf
  have HG := Lib.hid hg
  clear hv hv2 hn hm hf hg
  by_cases h1 : kd = kd'
  case neg =>
    have h1' : (kd == kd') = false := by simpa using h1
    have h1'' : (kd != kd') = true := by simpa using h1
    rw [h1']
    clear h1 h1'
    go_enter Try.func15, Try.ntmps15
    go_wp2_with fail
    go_ret
    exact ⟨rfl, HB0.out⟩
  subst h1
  have kk : (kd != kd) = false := by simp
  have bb : b = b' ∨ (b = true ∧ b' = false) ∨ (b = false ∧ b' = true) := by cases b <;> cases b' <;> simp
  rcases bb with rfl | ⟨rfl, rfl⟩ | ⟨rfl, rfl⟩
  case inr.inl =>
    simp only [show (true == false) = false from rfl, Bool.and_false, Bool.false_and]
    go_enter Try.func15, Try.ntmps15
    go_wp2_with fail
    go_ret
    exact ⟨rfl, HB0.out⟩
  case inr.inr =>
    simp only [show (false == true) = false from rfl, Bool.and_false, Bool.false_and]
    go_enter Try.func15, Try.ntmps15
    go_wp2_with fail
    go_ret
    exact ⟨rfl, HB0.out⟩
  have bb : (b != b) = false := by simp
  by_cases h3 : d = d'
  case neg =>
    have h1' : (d == d') = false := by simpa using h3
    have h1'' : (d != d') = true := by simpa using h3
    rw [h1']
    simp only [Bool.and_false, Bool.false_and]
    clear h1' h3
    go_enter Try.func15, Try.ntmps15
    go_wp2_with fail
    go_ret
    exact ⟨rfl, HB0.out⟩
  subst h3
  have dd : (d != d) = false := by simp
  simp only [beq_self_eq_true, Bool.true_and]
  by_cases hnm : n = m
  · subst hnm
    have hne : ((n : Int) != n) = false := by simp
    go_enter Try.func15, Try.ntmps15
    go_wp2_with fail
    go_loopw [5] (fun i wr => ∃ k : Nat, k ≤ n ∧ i = .int .i64 k ∧ (∃ q, wr = ((w.alloc (.cells #[.int .i64 kd, .slice a n c, .bool b, .int .i64 d] 24)).alloc (.cells #[.int .i64 kd, .slice a2 n c2, .bool b, .int .i64 d] 24)).drewN q) ∧ ∀ j, j < k → f j = g j) (fun i _ => n - (intOf i).toNat)
    case atStart => exact ⟨0, Nat.zero_le _, rfl, ⟨0, rfl⟩, by intro j hj; omega⟩
    case round =>
      obtain ⟨k, hk, rfl, ⟨q, rfl⟩, hfg⟩ := hrel
      have HE := Lib.hid hfg
      clear hfg
      by_cases hlt : k < n
      · obtain ⟨b1, o, rfl, hb, hc⟩ := HV.out (by omega)
        obtain ⟨b2, o2, rfl, hb2, hc2⟩ := HV2.out (by omega)
        have h1 := hc k hlt
        have h2 := hc2 k hlt
        clear hc hc2
        obtain ⟨fk, hfk⟩ : ∃ fk, fk = f k := ⟨_, rfl⟩
        obtain ⟨gk, hgk⟩ : ∃ gk, gk = g k := ⟨_, rfl⟩
        rw [← hfk] at h1
        rw [← hgk] at h2
        have HFK := Lib.hid hfk
        have HGK := Lib.hid hgk
        clear hfk hgk
        by_cases he : fk = gk
        · subst he
          have hnb : (fk != fk) = false := by simp
          go_wp2_with fail
          go_quiet (fail)
          go_wp2_with fail
          go_roundw
          case rel => exact ⟨k + 1, by omega, by go_num, ⟨_, rfl⟩, fun j hj => by
            rcases Nat.lt_or_ge j k with h | h
            · exact HE.out j h
            · obtain rfl : j = k := by omega
              rw [← HFK.out, ← HGK.out]⟩
          case measure => simp [intOf]; omega
        · have hnb : (fk != gk) = true := by simpa using he
          have fin : xs ≠ ys := by
            refine getD_ne (k := k) ?_
            rw [← HF.out, ← HG.out, ← HFK.out, ← HGK.out]
            exact he
          have FIN := Lib.hid fin
          clear fin he
          go_wp2_with fail
          go_quiet (fail)
          go_wp2_with fail
          go_ret
          exact ⟨by rw [decide_eq_false FIN.out]; rfl, by rw [World.drewN_drewN]; exact HB.out _⟩
      · obtain rfl : k = n := by omega
        have fin : xs = ys := list_eq_of (by rw [← HN.out, ← HM.out]) (fun j hj => by rw [← HF.out, ← HG.out]; exact HE.out j (by rw [HN.out]; exact hj))
        have FIN := Lib.hid fin
        clear fin
        go_wp2_with fail
        go_ret
        exact ⟨by rw [decide_eq_true FIN.out]; rfl, HB.out _⟩
  · have hne : ((n : Int) != m) = true := by simp; omega
    have fin : xs ≠ ys := fun e => hnm (by rw [HN.out, HM.out, e])
    rw [decide_eq_false fin]
    clear fin hnm
    go_enter Try.func15, Try.ntmps15
    go_wp2_with fail
    go_ret
    exact ⟨rfl, HB0.out⟩
end Go.Proofs.Ytaoagaokocnehaa
