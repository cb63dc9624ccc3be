/-
  Package objs: the walk of store, Put (there is room).
-/
import Derived.Test.YtaoagaokocnehaaOw6a
namespace Go.Proofs.Ytaoagaokocnehaa
set_option linter.unusedVariables false
set_option linter.unusedSimpArgs false
open Go.RowKit

set_option maxRecDepth 100000 in
set_option maxHeartbeats 6400000 in
theorem o_store_yes {w : World} {n c j : Nat} {a : Option Addr} {L L2 : List Int} {b fd : Bool} {t oa ob had y : Int} (n1 : ¬ oa < 0) (n2 : ¬ 255 < oa) (HX : Hid (Rd w (.slice a n c) L))
    (HH : ∀ W, Below w.heap.size w W → Hid (Calls Try.prog 44 #[.slice a n c, .int .i64 oa] W fun e w' => e = .returned (.int .i64 had) ∧ ∃ q, w' = W.drewN q))
    (HFi : ∀ W, Below w.heap.size w W → Hid (Calls Try.prog 45 #[.slice a n c, .int .i64 oa] W (FindP W j fd)))
    (HP : ∀ W, Below w.heap.size w W → Hid (Calls Try.prog 46 #[.slice a n c, .int .i64 oa, .int .i64 y] W (PutP W L2 true)))
    (HCa : ∀ W, Hid (Calls Try.prog 37 #[.int .i64 ob] W fun e w' => e = .returned (.int .i64 y) ∧ W = w')) :
    Calls Try.prog 29 #[.agg #[.int .i64 4, .slice a n c, .bool b, .int .i64 t], .agg #[.int .i64 5, .int .i64 oa, .int .i64 ob]] w (StepP w (.slice a n c) ((⟨4, L2, b, t⟩ : St), had)) := by
  go_enter Try.func29, Try.ntmps29
  go_wp2_with fail
  refine (HH _ (below3 w _ _ _)).out.mono ?_
  rintro e w1 ⟨rfl, q, rfl⟩
  go_wp2_with fail
  refine (HFi _ (below3d w _ _ _ _)).out.mono ?_
  rintro e w1 ⟨rfl, q2, rfl⟩
  go_wp2_with fail
  go_region_with (first | (go_at_call 37; refine (HCa _).out.mono ?_; rintro e w3 ⟨rfl, rfl⟩) | (go_at_call 46; refine (HP _ (below3d w _ _ _ _).drew).out.mono ?_; rintro e w4 ⟨v4, rfl, hrd, how, hb4'⟩; obtain ⟨a4, c4, rfl, _⟩ := id hrd; have HB' := Lib.hid hb4'; have HR := Lib.hid (how rfl); clear hb4' hrd how))
  all_goals
    obtain ⟨b0, b1, b2, hz4, hb4⟩ := box_facts (k := 4) (t := t) (co := 5) (oa := oa) (ob := ob) (vl := .slice a n c) (b := b) (below_undrew (q := q + q2 + 1) (HB'.out.mono (by simp : w.heap.size + 1 + 1 + 1 ≤ _)))
    have hk0 : w4.cell? ⟨w.heap.size, 0, none⟩ = some (.int .i64 4) := by rw [b0.cell]; rfl
    have hk1 : w4.cell? ⟨w.heap.size, 1, none⟩ = some (.slice a n c) := by rw [b0.cell]; rfl
    have hk2 : w4.cell? ⟨w.heap.size, 2, none⟩ = some (.bool b) := by rw [b0.cell]; rfl
    have hk3 : w4.cell? ⟨w.heap.size, 3, none⟩ = some (.int .i64 t) := by rw [b0.cell]; rfl
    have ho0 : w4.cell? ⟨w.heap.size + 1, 0, none⟩ = some (.int .i64 5) := by rw [b1.cell]; rfl
    have ho1 : w4.cell? ⟨w.heap.size + 1, 1, none⟩ = some (.int .i64 oa) := by rw [b1.cell]; rfl
    have ho2 : w4.cell? ⟨w.heap.size + 1, 2, none⟩ = some (.int .i64 ob) := by rw [b1.cell]; rfl
    have hr0 : w4.cell? ⟨w.heap.size + 1 + 1, 0, none⟩ = some (.int .i64 0) := by rw [b2.cell]; rfl
    have hr1 : w4.cell? ⟨w.heap.size + 1 + 1, 1, none⟩ = some (.slice none 0 0) := by rw [b2.cell]; rfl
    have hr2 : w4.cell? ⟨w.heap.size + 1 + 1, 2, none⟩ = some (.bool false) := by rw [b2.cell]; rfl
    have hr3 : w4.cell? ⟨w.heap.size + 1 + 1, 3, none⟩ = some (.int .i64 0) := by rw [b2.cell]; rfl
    have hfz0 := b0.frozen 1
    have hfr0 := b2.frozen 0
    have hfr1 := b2.frozen 1
    have hfr2 := b2.frozen 2
    have hfr3 := b2.frozen 3
    have B0 := Lib.hid b0
    have B2 := Lib.hid b2
    have HB4 := Lib.hid hb4
    clear b0 b1 b2 hb4 HB'
    go_wp2_with fail
    refine bodyPost_ret (v := .tuple #[.agg #[.int .i64 4, .slice a4 L2.length c4, .bool b, .int .i64 t], .int .i64 had]) ?_ rfl ?_
    · simp [results, Try.results29, go_sem, hr0, hr1, hr2, hr3]
    · exact stepp_own B0.out B2.out (sets_keeps _ _ _ _ _ _ _ _) HB4.out (Nat.le_refl _) (by omega) HR.out.1 (HR.out.2.mono (below3d w _ _ _ _).drew.size) _ _ _ _
end Go.Proofs.Ytaoagaokocnehaa
