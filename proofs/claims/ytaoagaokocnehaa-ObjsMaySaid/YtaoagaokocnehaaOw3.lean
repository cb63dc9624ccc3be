/-
  Package objs: the walks of May, Fits, Same, Start.
-/
import Derived.Test.YtaoagaokocnehaaOw2
namespace Go.Proofs.Ytaoagaokocnehaa
set_option linter.unusedVariables false
set_option linter.unusedSimpArgs false
open Go.RowKit

theorem bool_ret {b c : Bool} (h : b = c) : Ending.returned (.bool b) = .returned (.bool c) := by rw [h]

set_option maxRecDepth 100000 in
set_option maxHeartbeats 3200000 in
theorem o_may {w : World} {vl : Value} (s : St) (hx : Rd w vl s.L) (hl : s.L.length ≤ 17592186044416) :
    Calls Try.prog 20 #[.agg #[.int .i64 s.kind, vl, .bool s.isSealed, .int .i64 s.to]] w (Tells w (mayB s)) := by
  obtain ⟨k, L, b, t⟩ := s
  simp only at hx hl ⊢
  have hW : Below w.heap.size w (w.alloc (.cells #[.int .i64 k, vl, .bool b, .int .i64 t] 24)) := (Below.refl _ w).alloc (Nat.le_refl _) _
  have hx1 := hx.alloc (.cells #[.int .i64 k, vl, .bool b, .int .i64 t] 24)
  have HC := Lib.hid (sl_contains hx1)
  have HP := Lib.hid (o_pairs hx1 hl)
  obtain ⟨n, a, c, hvl, hn⟩ : ∃ n a c, vl = .slice a n c ∧ n = L.length := by
    obtain ⟨a, c, e, _⟩ := hx
    exact ⟨_, a, c, e, rfl⟩
  subst hvl
  have hl' : n ≤ 17592186044416 := by omega
  have HN := Lib.hid hn
  clear hn hl hx
  have HW := Lib.hid hW
  clear hW hx1
  have hto : (t < 0 ∨ 3 ≤ t ∨ (b = false ∧ t ≠ 0)) ∨ (0 ≤ t ∧ t < 3 ∧ (b = true ∨ t = 0)) := by
    cases b <;> simp <;> omega
  rcases hto with hbad | ⟨t1, t2, t3⟩
  · have hm : mayB ⟨k, L, b, t⟩ = false := by unfold mayB; simp only; rw [if_pos hbad]
    rw [hm]
    clear hm HC HP
    have hb3 : t < 0 ∨ (¬ t < 0 ∧ 3 ≤ t) ∨ (¬ t < 0 ∧ ¬ 3 ≤ t ∧ b = false ∧ (t != 0) = true) := by
      rcases hbad with h | h | ⟨h1, h2⟩
      · exact .inl h
      · exact .inr (.inl ⟨by omega, h⟩)
      · by_cases g : t < 0
        · exact .inl g
        · by_cases g2 : 3 ≤ t
          · exact .inr (.inl ⟨g, g2⟩)
          · exact .inr (.inr ⟨g, g2, h1, by simpa using h2⟩)
    clear hbad
    rcases hb3 with g1 | ⟨g1, g2⟩ | ⟨g1, g2, rfl, g4⟩
    all_goals
      go_enter Try.func20, Try.ntmps20
      go_wp2_with fail
      go_ret
      exact ⟨rfl, HW.out⟩
  · have hnb : ¬ (t < 0 ∨ 3 ≤ t ∨ (b = false ∧ t ≠ 0)) := by
      rcases t3 with rfl | rfl <;> simp <;> omega
    have g1 : ¬ t < 0 := by omega
    have g2 : ¬ 3 ≤ t := by omega
    have hm : mayB ⟨k, L, b, t⟩ = if k = 0 ∨ k = 1 then decide (L.length = 1) && withinB L else if k = 2 ∨ k = 3 then decide (L.length ≤ 64) && withinB L else if k = 4 then pairsB L (-1099511627776) else if k = 5 then pairsB L 0 else false := by
      unfold mayB; simp only; rw [if_neg hnb]
    have hwi : (!L.any (fun n => n != cutI n)) = withinB L := rfl
    generalize hq : L.any (fun n => n != cutI n) = q at HC hwi
    have t4 : b = true ∨ (b = false ∧ (t != 0) = false) := by
      rcases t3 with h | rfl
      · exact .inl h
      · cases b <;> simp
    have HM := Lib.hid hm
    have HI := Lib.hid hwi
    clear hm hnb t1 t2 hq t3 hwi
    by_cases k0 : k = 0
    · subst k0
      have e0 : mayB ⟨0, L, b, t⟩ = (decide (L.length = 1) && withinB L) := by rw [HM.out]; simp
      by_cases h1 : n = 1
      · have h1' : ((n : Int) == 1) = true := by simp; omega
        have fin : (!q) = mayB ⟨0, L, b, t⟩ := by rw [e0, HI.out, decide_eq_true (by rw [← HN.out]; exact h1)]; rfl
        have HT := Lib.hid fin
        clear fin e0 h1
        rcases t4 with rfl | ⟨rfl, h0⟩
        all_goals
          go_enter Try.func20, Try.ntmps20
          go_wp2_with fail
          refine HC.out.mono ?_
          rintro e w1 ⟨rfl, rfl⟩
          go_wp2_with fail
          go_ret
          exact ⟨bool_ret HT.out, HW.out⟩
      · have h1' : ((n : Int) == 1) = false := by simp; omega
        have fin : false = mayB ⟨0, L, b, t⟩ := by rw [e0, decide_eq_false (by rw [← HN.out]; exact h1)]; rfl
        have HT := Lib.hid fin
        clear fin e0 h1
        rcases t4 with rfl | ⟨rfl, h0⟩
        all_goals
          go_enter Try.func20, Try.ntmps20
          go_wp2_with fail
          refine HC.out.mono ?_
          rintro e w1 ⟨rfl, rfl⟩
          go_wp2_with fail
          go_ret
          exact ⟨bool_ret HT.out, HW.out⟩
    by_cases k1 : k = 1
    · subst k1
      have e0 : mayB ⟨1, L, b, t⟩ = (decide (L.length = 1) && withinB L) := by rw [HM.out]; simp
      by_cases h1 : n = 1
      · have h1' : ((n : Int) == 1) = true := by simp; omega
        have fin : (!q) = mayB ⟨1, L, b, t⟩ := by rw [e0, HI.out, decide_eq_true (by rw [← HN.out]; exact h1)]; rfl
        have HT := Lib.hid fin
        clear fin e0 h1
        rcases t4 with rfl | ⟨rfl, h0⟩
        all_goals
          go_enter Try.func20, Try.ntmps20
          go_wp2_with fail
          refine HC.out.mono ?_
          rintro e w1 ⟨rfl, rfl⟩
          go_wp2_with fail
          go_ret
          exact ⟨bool_ret HT.out, HW.out⟩
      · have h1' : ((n : Int) == 1) = false := by simp; omega
        have fin : false = mayB ⟨1, L, b, t⟩ := by rw [e0, decide_eq_false (by rw [← HN.out]; exact h1)]; rfl
        have HT := Lib.hid fin
        clear fin e0 h1
        rcases t4 with rfl | ⟨rfl, h0⟩
        all_goals
          go_enter Try.func20, Try.ntmps20
          go_wp2_with fail
          refine HC.out.mono ?_
          rintro e w1 ⟨rfl, rfl⟩
          go_wp2_with fail
          go_ret
          exact ⟨bool_ret HT.out, HW.out⟩
    by_cases k2 : k = 2
    · subst k2
      have e0 : mayB ⟨2, L, b, t⟩ = (decide (L.length ≤ 64) && withinB L) := by rw [HM.out]; simp
      by_cases h1 : n ≤ 64
      · have h1' : decide ((n : Int) ≤ 64) = true := by simp; omega
        have fin : (!q) = mayB ⟨2, L, b, t⟩ := by rw [e0, HI.out, decide_eq_true (by rw [← HN.out]; exact h1)]; rfl
        have HT := Lib.hid fin
        clear fin e0 h1
        rcases t4 with rfl | ⟨rfl, h0⟩
        all_goals
          go_enter Try.func20, Try.ntmps20
          go_wp2_with fail
          refine HC.out.mono ?_
          rintro e w1 ⟨rfl, rfl⟩
          go_wp2_with fail
          go_ret
          exact ⟨bool_ret HT.out, HW.out⟩
      · have h1' : decide ((n : Int) ≤ 64) = false := by simp; omega
        have fin : false = mayB ⟨2, L, b, t⟩ := by rw [e0, decide_eq_false (by rw [← HN.out]; exact h1)]; rfl
        have HT := Lib.hid fin
        clear fin e0 h1
        rcases t4 with rfl | ⟨rfl, h0⟩
        all_goals
          go_enter Try.func20, Try.ntmps20
          go_wp2_with fail
          refine HC.out.mono ?_
          rintro e w1 ⟨rfl, rfl⟩
          go_wp2_with fail
          go_ret
          exact ⟨bool_ret HT.out, HW.out⟩
    by_cases k3 : k = 3
    · subst k3
      have e0 : mayB ⟨3, L, b, t⟩ = (decide (L.length ≤ 64) && withinB L) := by rw [HM.out]; simp
      by_cases h1 : n ≤ 64
      · have h1' : decide ((n : Int) ≤ 64) = true := by simp; omega
        have fin : (!q) = mayB ⟨3, L, b, t⟩ := by rw [e0, HI.out, decide_eq_true (by rw [← HN.out]; exact h1)]; rfl
        have HT := Lib.hid fin
        clear fin e0 h1
        rcases t4 with rfl | ⟨rfl, h0⟩
        all_goals
          go_enter Try.func20, Try.ntmps20
          go_wp2_with fail
          refine HC.out.mono ?_
          rintro e w1 ⟨rfl, rfl⟩
          go_wp2_with fail
          go_ret
          exact ⟨bool_ret HT.out, HW.out⟩
      · have h1' : decide ((n : Int) ≤ 64) = false := by simp; omega
        have fin : false = mayB ⟨3, L, b, t⟩ := by rw [e0, decide_eq_false (by rw [← HN.out]; exact h1)]; rfl
        have HT := Lib.hid fin
        clear fin e0 h1
        rcases t4 with rfl | ⟨rfl, h0⟩
        all_goals
          go_enter Try.func20, Try.ntmps20
          go_wp2_with fail
          refine HC.out.mono ?_
          rintro e w1 ⟨rfl, rfl⟩
          go_wp2_with fail
          go_ret
          exact ⟨bool_ret HT.out, HW.out⟩
    by_cases k4 : k = 4
    · subst k4
      have e0 : mayB ⟨4, L, b, t⟩ = pairsB L (-1099511627776) := by rw [HM.out]; simp
      have fin : pairsB L (-1099511627776) = mayB ⟨4, L, b, t⟩ := e0.symm
      have HT := Lib.hid fin
      have HQ := Lib.hid (HP.out (-1099511627776))
      clear fin e0 HP
      rcases t4 with rfl | ⟨rfl, h0⟩
      all_goals
        go_enter Try.func20, Try.ntmps20
        go_wp2_with fail
        refine HC.out.mono ?_
        rintro e w1 ⟨rfl, rfl⟩
        go_wp2_with fail
        refine HQ.out.mono ?_
        rintro e w2 ⟨rfl, rfl⟩
        go_wp2_with fail
        go_ret
        exact ⟨bool_ret HT.out, HW.out⟩
    by_cases k5 : k = 5
    · subst k5
      have e0 : mayB ⟨5, L, b, t⟩ = pairsB L 0 := by rw [HM.out]; simp
      have fin : pairsB L 0 = mayB ⟨5, L, b, t⟩ := e0.symm
      have HT := Lib.hid fin
      have HQ := Lib.hid (HP.out 0)
      clear fin e0 HP
      rcases t4 with rfl | ⟨rfl, h0⟩
      all_goals
        go_enter Try.func20, Try.ntmps20
        go_wp2_with fail
        refine HC.out.mono ?_
        rintro e w1 ⟨rfl, rfl⟩
        go_wp2_with fail
        refine HQ.out.mono ?_
        rintro e w2 ⟨rfl, rfl⟩
        go_wp2_with fail
        go_ret
        exact ⟨bool_ret HT.out, HW.out⟩
    have fin : false = mayB ⟨k, L, b, t⟩ := by rw [HM.out, if_neg (by omega), if_neg (by omega), if_neg k4, if_neg k5]
    have HT := Lib.hid fin
    have g0' : (k == 0) = false := by simpa using k0
    have g1' : (k == 1) = false := by simpa using k1
    have g2' : (k == 2) = false := by simpa using k2
    have g3' : (k == 3) = false := by simpa using k3
    have g4' : (k == 4) = false := by simpa using k4
    have g5' : (k == 5) = false := by simpa using k5
    clear fin k0 k1 k2 k3 k4 k5
    rcases t4 with rfl | ⟨rfl, h0⟩
    all_goals
      go_enter Try.func20, Try.ntmps20
      go_wp2_with fail
      refine HC.out.mono ?_
      rintro e w1 ⟨rfl, rfl⟩
      go_wp2_with fail
      go_ret
      exact ⟨bool_ret HT.out, HW.out⟩
end Go.Proofs.Ytaoagaokocnehaa
