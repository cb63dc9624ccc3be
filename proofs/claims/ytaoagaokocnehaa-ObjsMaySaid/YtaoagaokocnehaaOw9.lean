/-
  Package objs: the walk of Step.
-/
import Derived.Test.YtaoagaokocnehaaOw6
import Derived.Test.YtaoagaokocnehaaOw8
namespace Go.Proofs.Ytaoagaokocnehaa
set_option linter.unusedVariables false
set_option linter.unusedSimpArgs false
open Go.RowKit

theorem step_open {w w4 : World} {k t co oa ob : Int} {vl : Value} {b : Bool} (h : Below (w.heap.size + 1 + 1 + 1) (((w.alloc (.cells #[.int .i64 k, vl, .bool b, .int .i64 t] 24)).alloc (.cells #[.int .i64 co, .int .i64 oa, .int .i64 ob] 26)).alloc (.cells #[.int .i64 0, .slice none 0 0, .bool false, .int .i64 0] 24)) w4) :
    (w4.cell? ⟨w.heap.size, 0, none⟩ = some (.int .i64 k) ∧ w4.cell? ⟨w.heap.size, 1, none⟩ = some vl ∧ w4.cell? ⟨w.heap.size, 2, none⟩ = some (.bool b) ∧ w4.cell? ⟨w.heap.size, 3, none⟩ = some (.int .i64 t)) ∧
    (w4.cell? ⟨w.heap.size + 1, 0, none⟩ = some (.int .i64 co) ∧ w4.cell? ⟨w.heap.size + 1, 1, none⟩ = some (.int .i64 oa) ∧ w4.cell? ⟨w.heap.size + 1, 2, none⟩ = some (.int .i64 ob)) ∧
    (w4.cell? ⟨w.heap.size + 1 + 1, 0, none⟩ = some (.int .i64 0) ∧ w4.cell? ⟨w.heap.size + 1 + 1, 1, none⟩ = some (.slice none 0 0) ∧ w4.cell? ⟨w.heap.size + 1 + 1, 2, none⟩ = some (.bool false) ∧ w4.cell? ⟨w.heap.size + 1 + 1, 3, none⟩ = some (.int .i64 0)) ∧
    (w4.frozen? ⟨w.heap.size, 2, none⟩ = false ∧ w4.frozen? ⟨w.heap.size, 3, none⟩ = false) ∧
    (w4.frozen? ⟨w.heap.size + 1 + 1, 0, none⟩ = false ∧ w4.frozen? ⟨w.heap.size + 1 + 1, 1, none⟩ = false ∧ w4.frozen? ⟨w.heap.size + 1 + 1, 2, none⟩ = false ∧ w4.frozen? ⟨w.heap.size + 1 + 1, 3, none⟩ = false) := by
  obtain ⟨b0, b1, b2, _, _⟩ := box_facts h
  refine ⟨⟨?_, ?_, ?_, ?_⟩, ⟨?_, ?_, ?_⟩, ⟨?_, ?_, ?_, ?_⟩, ⟨b0.frozen 2, b0.frozen 3⟩, b2.frozen 0, b2.frozen 1, b2.frozen 2, b2.frozen 3⟩
  all_goals first | rw [b0.cell]; rfl | rw [b1.cell]; rfl | rw [b2.cell]; rfl

/-- The stores of a seal: into the boxed state, into the result. -/
theorem seal_keeps (w4 : World) (B C : Nat) (v1 v2 v3 v4 v5 v6 : Value) : Keeps (fun k => k = B ∨ k = C) w4 ((((((w4.setCell ⟨B, 2, none⟩ v1).setCell ⟨B, 3, none⟩ v6).setCell ⟨C, 0, none⟩ v2).setCell ⟨C, 1, none⟩ v3).setCell ⟨C, 2, none⟩ v4).setCell ⟨C, 3, none⟩ v5) :=
  (((((((Keeps.refl _ w4).set B 2 (.inl (.inl rfl)) _).set B 3 (.inl (.inl rfl)) _).set C 0 (.inl (.inr rfl)) _).set C 1 (.inl (.inr rfl)) _).set C 2 (.inl (.inr rfl)) _).set C 3 (.inl (.inr rfl)) _)
theorem seal_keeps' (w4 : World) (B C : Nat) (v1 v2 v3 v4 v5 : Value) : Keeps (fun k => k = B ∨ k = C) w4 (((((w4.setCell ⟨B, 2, none⟩ v1).setCell ⟨C, 0, none⟩ v2).setCell ⟨C, 1, none⟩ v3).setCell ⟨C, 2, none⟩ v4).setCell ⟨C, 3, none⟩ v5) :=
  ((((((Keeps.refl _ w4).set B 2 (.inl (.inl rfl)) _).set C 0 (.inl (.inr rfl)) _).set C 1 (.inl (.inr rfl)) _).set C 2 (.inl (.inr rfl)) _).set C 3 (.inl (.inr rfl)) _)

set_option maxRecDepth 100000 in
set_option maxHeartbeats 6400000 in
theorem o_step_no {w : World} {n c : Nat} {a : Option Addr} {L : List Int} {b m : Bool} {k t co oa ob r : Int} (HX : Hid (Rd w (.slice a n c) L))
    (HM : ∀ W, Below w.heap.size w W → Hid (Calls Try.prog 20 #[.agg #[.int .i64 k, .slice a n c, .bool b, .int .i64 t]] W (Tells W m)))
    (h : (m = false ∧ r = 0) ∨ (m = true ∧ b = true ∧ r = -1125899906842624)) :
    Calls Try.prog 13 #[.agg #[.int .i64 k, .slice a n c, .bool b, .int .i64 t], .agg #[.int .i64 co, .int .i64 oa, .int .i64 ob]] w (StepP w (.slice a n c) ((⟨k, L, b, t⟩ : St), r)) := by
  rcases h with ⟨rfl, rfl⟩ | ⟨rfl, rfl, rfl⟩
  all_goals
    go_enter Try.func13, Try.ntmps13
    go_wp2_with fail
    refine (HM _ (below3 w _ _ _)).out.mono ?_
    rintro e w4 ⟨rfl, hb4⟩
    have hB' := hb4.mono (by simp : w.heap.size + 1 + 1 + 1 ≤ _)
    obtain ⟨⟨hk0, hk1, hk2, hk3⟩, ⟨ho0, ho1, ho2⟩, ⟨hr0, hr1, hr2, hr3⟩, ⟨hz2, hz3⟩, hf0, hf1, hf2, hf3⟩ := step_open hB'
    have HB := Lib.hid hB'
    clear hb4 hB'
    go_wp2_with fail
  · refine bodyPost_ret (v := .tuple #[.agg #[.int .i64 k, .slice a n c, .bool b, .int .i64 t], .int .i64 0]) ?_ rfl ?_
    · simp [results, Try.results13, go_sem, hr0, hr1, hr2, hr3]
    · exact stepp_same HX.out (below_res ((below3 w _ _ _).trans (HB.out.mono (by omega))) _ (by omega) _ _ _ _)
  · refine bodyPost_ret (v := .tuple #[.agg #[.int .i64 k, .slice a n c, .bool true, .int .i64 t], .int .i64 (-1125899906842624)]) ?_ rfl ?_
    · simp [results, Try.results13, go_sem, hr0, hr1, hr2, hr3]
    · exact stepp_same HX.out (below_res ((below3 w _ _ _).trans (HB.out.mono (by omega))) _ (by omega) _ _ _ _)

set_option maxRecDepth 100000 in
set_option maxHeartbeats 6400000 in
theorem o_step_seal {w : World} {n c : Nat} {a : Option Addr} {L : List Int} {k t t' oa ob : Int} (HX : Hid (Rd w (.slice a n c) L))
    (HM : ∀ W, Below w.heap.size w W → Hid (Calls Try.prog 20 #[.agg #[.int .i64 k, .slice a n c, .bool false, .int .i64 t]] W (Tells W true)))
    (h : (¬ 0 ≤ oa ∧ t' = t) ∨ (0 ≤ oa ∧ ¬ oa < 3 ∧ t' = t) ∨ (0 ≤ oa ∧ oa < 3 ∧ t' = oa)) :
    Calls Try.prog 13 #[.agg #[.int .i64 k, .slice a n c, .bool false, .int .i64 t], .agg #[.int .i64 10, .int .i64 oa, .int .i64 ob]] w (StepP w (.slice a n c) ((⟨k, L, true, t'⟩ : St), 0)) := by
  rcases h with ⟨h1, rfl⟩ | ⟨h1, h2, rfl⟩ | ⟨h1, h2, rfl⟩
  all_goals
    go_enter Try.func13, Try.ntmps13
    go_wp2_with fail
    refine (HM _ (below3 w _ _ _)).out.mono ?_
    rintro e w4 ⟨rfl, hb4⟩
    have hB' := hb4.mono (by simp : w.heap.size + 1 + 1 + 1 ≤ _)
    obtain ⟨⟨hk0, hk1, hk2, hk3⟩, ⟨ho0, ho1, ho2⟩, ⟨hr0, hr1, hr2, hr3⟩, ⟨hz2, hz3⟩, hf0, hf1, hf2, hf3⟩ := step_open hB'
    have HB := Lib.hid hB'
    clear hb4 hB'
    go_wp2_with fail
    refine bodyPost_ret (v := .tuple #[.agg #[.int .i64 k, .slice a n c, .bool true, .int .i64 t'], .int .i64 0]) ?_ rfl ?_
    · simp [results, Try.results13, go_sem, hr0, hr1, hr2, hr3]
    · have hB := (below3 w _ _ _).trans (HB.out.mono (by omega))
      have g1 := fun (v1 v2 v3 v4 v5 : Value) => hB.trans ((seal_keeps' w4 w.heap.size (w.heap.size + 1 + 1) v1 v2 v3 v4 v5).below (B := w.heap.size) (by rintro k (rfl | rfl) <;> omega) hB.size)
      have g2 := fun (v1 v2 v3 v4 v5 v6 : Value) => hB.trans ((seal_keeps w4 w.heap.size (w.heap.size + 1 + 1) v1 v2 v3 v4 v5 v6).below (B := w.heap.size) (by rintro k (rfl | rfl) <;> omega) hB.size)
      refine stepp_same HX.out ?_
      first
        | with_reducible exact g1 _ _ _ _ _
        | with_reducible exact g2 _ _ _ _ _ _

set_option maxRecDepth 100000 in
set_option maxHeartbeats 6400000 in
theorem o_step_do {w : World} {n c : Nat} {a : Option Addr} {L : List Int} {k t co oa ob : Int} {r : St × Int} (HX : Hid (Rd w (.slice a n c) L))
    (HM : ∀ W, Below w.heap.size w W → Hid (Calls Try.prog 20 #[.agg #[.int .i64 k, .slice a n c, .bool false, .int .i64 t]] W (Tells W true)))
    (g : (co == 10) = false) (f : FuncId)
    (hf : ((k = 0 ∨ k = 1) ∧ f = 27) ∨ ((k = 2 ∨ k = 3) ∧ f = 28) ∨ (k = 4 ∧ f = 29) ∨ (k = 5 ∧ f = 30))
    (HS : ∀ W, Below w.heap.size w W → Hid (Calls Try.prog f #[.agg #[.int .i64 k, .slice a n c, .bool false, .int .i64 t], .agg #[.int .i64 co, .int .i64 oa, .int .i64 ob]] W (StepP W (.slice a n c) r))) :
    Calls Try.prog 13 #[.agg #[.int .i64 k, .slice a n c, .bool false, .int .i64 t], .agg #[.int .i64 co, .int .i64 oa, .int .i64 ob]] w (StepP w (.slice a n c) r) := by
  rcases hf with ⟨rfl | rfl, rfl⟩ | ⟨rfl | rfl, rfl⟩ | ⟨rfl, rfl⟩ | ⟨rfl, rfl⟩
  all_goals
    go_enter Try.func13, Try.ntmps13
    go_wp2_with fail
    refine (HM _ (below3 w _ _ _)).out.mono ?_
    rintro e w4 ⟨rfl, hb4⟩
    have hB' := hb4.mono (by simp : w.heap.size + 1 + 1 + 1 ≤ _)
    obtain ⟨⟨hk0, hk1, hk2, hk3⟩, ⟨ho0, ho1, ho2⟩, ⟨hr0, hr1, hr2, hr3⟩, ⟨hz2, hz3⟩, hf0, hf1, hf2, hf3⟩ := step_open hB'
    have HB := Lib.hid hB'
    clear hb4 hB'
    go_wp2_with fail
    refine (HS _ ((below3 w _ _ _).trans (HB.out.mono (by omega)))).out.mono ?_
    rintro e w5 ⟨v5, rfl, hrd, hb5, hor⟩
    obtain ⟨a4, c4, rfl, _⟩ := id hrd
    clear hk0 hk1 hk2 hk3 ho0 ho1 ho2 hr0 hr1 hr2 hr3 hz2 hz3 hf0 hf1 hf2 hf3
    have hB5 := HB.out.trans (hb5.mono (by have := HB.out.size; simpa using this))
    obtain ⟨⟨hk0, hk1, hk2, hk3⟩, ⟨ho0, ho1, ho2⟩, ⟨hr0, hr1, hr2, hr3⟩, ⟨hz2, hz3⟩, hf0, hf1, hf2, hf3⟩ := step_open hB5
    have HB5 := Lib.hid hb5
    have HR := Lib.hid hrd
    have HO := Lib.hid hor
    clear hB5 hb5 hrd hor hk0 hk1 hk2 hk3 ho0 ho1 ho2 hz2 hz3
    obtain ⟨⟨k', L', b', t'⟩, m'⟩ := r
    go_wp2_with fail
    refine bodyPost_ret (v := .tuple #[.agg #[.int .i64 k', .slice a4 L'.length c4, .bool b', .int .i64 t'], .int .i64 m']) ?_ rfl ?_
    · simp [results, Try.results13, go_sem, hr0, hr1, hr2, hr3]
    · exact stepp_pass (r := (⟨k', L', b', t'⟩, m')) HX.out ((below3 w _ _ _).trans (HB.out.mono (by omega))) (box_facts HB.out).2.2.1 (by omega) HR.out HB5.out HO.out _ _ _ _

theorem may_kind {s : St} (hm : mayB s = true) : (s.kind = 0 ∨ s.kind = 1) ∨ (s.kind = 2 ∨ s.kind = 3) ∨ s.kind = 4 ∨ s.kind = 5 := by
  unfold mayB at hm
  split at hm
  · simp at hm
  · by_cases h : (s.kind = 0 ∨ s.kind = 1) ∨ (s.kind = 2 ∨ s.kind = 3) ∨ s.kind = 4 ∨ s.kind = 5
    · exact h
    · simp only [not_or] at h
      simp [h] at hm

theorem o_step {w : World} {vl : Value} (s : St) (o : Op3) (hx : Rd w vl s.L) (hl : s.L.length ≤ 17592186044416) :
    Calls Try.prog 13 #[.agg #[.int .i64 s.kind, vl, .bool s.isSealed, .int .i64 s.to], .agg #[.int .i64 o.code, .int .i64 o.a, .int .i64 o.b]] w (StepP w vl (stepS s o)) := by
  have HM := fun W (hB : Below w.heap.size w W) => Lib.hid (o_may (w := W) s (hx.below hB (Nat.le_refl _)) hl)
  have HX := Lib.hid hx
  obtain ⟨a, c, rfl, _⟩ := id hx
  by_cases hm : mayB s = false
  · have hr : stepS s o = (s, 0) := by unfold stepS; rw [if_pos hm]
    rw [hr]
    rw [hm] at HM
    exact o_step_no HX HM (.inl ⟨rfl, rfl⟩)
  have hm' : mayB s = true := by simpa using hm
  rw [hm'] at HM
  by_cases hs : s.isSealed = true
  · have hr : stepS s o = (s, -1125899906842624) := by unfold stepS; rw [if_neg hm, if_pos hs]
    rw [hr]
    exact o_step_no HX HM (.inr ⟨rfl, hs, rfl⟩)
  have hs' : s.isSealed = false := by simpa using hs
  by_cases hc : o.code = 10
  · have hr : stepS s o = ({ s with isSealed := true, to := if 0 ≤ o.a ∧ o.a < 3 then o.a else s.to }, 0) := by unfold stepS; rw [if_neg hm, if_neg hs, if_pos hc]
    rw [hr]
    rw [hs'] at HM ⊢
    rw [hc]
    refine o_step_seal HX HM ?_
    by_cases h1 : 0 ≤ o.a
    · by_cases h2 : o.a < 3
      · exact .inr (.inr ⟨h1, h2, by simp [h1, h2]⟩)
      · exact .inr (.inl ⟨h1, h2, by simp [h2]⟩)
    · exact .inl ⟨h1, by simp [h1]⟩
  have g : (o.code == 10) = false := by simpa using hc
  have key : ∀ (f : FuncId) (r : St × Int), (((s.kind = 0 ∨ s.kind = 1) ∧ f = 27) ∨ ((s.kind = 2 ∨ s.kind = 3) ∧ f = 28) ∨ (s.kind = 4 ∧ f = 29) ∨ (s.kind = 5 ∧ f = 30)) →
      (∀ W, Below w.heap.size w W → Hid (Calls Try.prog f #[.agg #[.int .i64 s.kind, .slice a s.L.length c, .bool s.isSealed, .int .i64 s.to], .agg #[.int .i64 o.code, .int .i64 o.a, .int .i64 o.b]] W (StepP W (.slice a s.L.length c) r))) → stepS s o = r →
      Calls Try.prog 13 #[.agg #[.int .i64 s.kind, .slice a s.L.length c, .bool s.isSealed, .int .i64 s.to], .agg #[.int .i64 o.code, .int .i64 o.a, .int .i64 o.b]] w (StepP w (.slice a s.L.length c) (stepS s o)) := by
    intro f r hf hS hr
    rw [hr]
    rw [hs'] at HM hS ⊢
    exact o_step_do HX HM g f hf hS
  rcases may_kind hm' with hk | hk | hk | hk
  · exact key _ (numberS s o) (.inl ⟨hk, rfl⟩) (fun W hB => Lib.hid (o_number s o (hx.below hB (Nat.le_refl _)) hk hm')) (by unfold stepS; rw [if_neg hm, if_neg hs, if_neg hc, if_pos hk])
  · exact key _ (lineS s o) (.inr (.inl ⟨hk, rfl⟩)) (fun W hB => Lib.hid (o_line s o (hx.below hB (Nat.le_refl _)) hk hm')) (by unfold stepS; rw [if_neg hm, if_neg hs, if_neg hc, if_neg (by omega), if_pos hk])
  · exact key _ (storeS s o) (.inr (.inr (.inl ⟨hk, rfl⟩))) (fun W hB => Lib.hid (o_store s o (hx.below hB (Nat.le_refl _)) hk hm')) (by unfold stepS; rw [if_neg hm, if_neg hs, if_neg hc, if_neg (by omega), if_neg (by omega), if_pos hk])
  · exact key _ (ledgerS s o) (.inr (.inr (.inr ⟨hk, rfl⟩))) (fun W hB => Lib.hid (o_ledger s o (hx.below hB (Nat.le_refl _)) hk hm')) (by unfold stepS; rw [if_neg hm, if_neg hs, if_neg hc, if_neg (by omega), if_neg (by omega), if_neg (by omega)])
end Go.Proofs.Ytaoagaokocnehaa
