/-
  Package objs: the walks of number, line.
-/
import Derived.Test.YtaoagaokocnehaaOw3
namespace Go.Proofs.Ytaoagaokocnehaa
set_option linter.unusedVariables false
set_option linter.unusedSimpArgs false
open Go.RowKit

/-- What a step tells. -/
def StepP (w : World) (v0 : Value) (r : St × Int) (e : Ending) (w' : World) : Prop :=
  ∃ vl, e = .returned (.tuple #[.agg #[.int .i64 r.1.kind, vl, .bool r.1.isSealed, .int .i64 r.1.to], .int .i64 r.2]) ∧ Rd w' vl r.1.L ∧ Below w.heap.size w w' ∧ (vl = v0 ∨ (Own w' 3 1 vl r.1.L.length (ints r.1.L) ∧ Fresh w.heap.size vl))

theorem may_one {s : St} (hk : s.kind = 0 ∨ s.kind = 1) (hm : mayB s = true) : ∃ x, s.L = [x] ∧ -1099511627776 ≤ x ∧ x ≤ 1099511627776 := by
  unfold mayB at hm
  split at hm
  · simp at hm
  · simp only [Bool.and_eq_true, decide_eq_true_eq] at hm
    obtain ⟨h1, h2⟩ := hm
    obtain ⟨x, hx⟩ := List.length_eq_one_iff.1 h1
    refine ⟨x, hx, ?_⟩
    rw [hx] at h2
    unfold withinB at h2
    simp at h2
    have := cutI_range x
    omega

theorem below3 (w : World) (a b c : Obj) : Below w.heap.size w (((w.alloc a).alloc b).alloc c) := (((Below.refl _ w).alloc (Nat.le_refl _) _).alloc (by simp) _).alloc (by simp; omega) _
theorem stepp_same {w W : World} {vl : Value} {k t n : Int} {L : List Int} {b : Bool} (h : Rd w vl L) (hB : Below w.heap.size w W) : StepP w vl (⟨k, L, b, t⟩, n) (.returned (.tuple #[.agg #[.int .i64 k, vl, .bool b, .int .i64 t], .int .i64 n])) W :=
  ⟨_, rfl, h.below hB (Nat.le_refl _), hB, .inl rfl⟩
theorem stepp_one {w W : World} {v0 : Value} (hB : Below w.heap.size w W) (B : Nat) (hb : B = W.heap.size) (k t n z : Int) (b : Bool) : StepP w v0 (⟨k, [z], b, t⟩, n) (.returned (.tuple #[.agg #[.int .i64 k, .slice (some ⟨B, 0, none⟩) 1 1, .bool b, .int .i64 t], .int .i64 n])) (W.alloc (.cells #[.int .i64 z] 3)) := by
  subst hb
  have := own_lit W 3 (ints [z]) (by simp [ints, maxLen])
  exact ⟨_, rfl, own_rd (n := 1) this, hB.alloc hB.size _, .inr ⟨this, fresh_some hB.size⟩⟩

set_option maxRecDepth 100000 in
set_option maxHeartbeats 3200000 in
theorem o_number {w : World} {vl : Value} (s : St) (o : Op3) (hx : Rd w vl s.L) (hk : s.kind = 0 ∨ s.kind = 1) (hm : mayB s = true) :
    Calls Try.prog 27 #[.agg #[.int .i64 s.kind, vl, .bool s.isSealed, .int .i64 s.to], .agg #[.int .i64 o.code, .int .i64 o.a, .int .i64 o.b]] w (StepP w vl (numberS s o)) := by
  obtain ⟨x, hL, x1, x2⟩ := may_one hk hm
  obtain ⟨k, L, b, t⟩ := s
  obtain ⟨co, oa, ob⟩ := o
  simp only at hx hk hL hm ⊢
  subst hL
  obtain ⟨n, a, c, f, rfl, hn, hnc, hcm, hf, hv⟩ := hx.view
  simp at hn
  subst hn
  obtain ⟨bb, oo, rfl, hb, hc⟩ := hv (by omega)
  have hc0 := hc 0 (by omega)
  rw [hf, Nat.add_zero] at hc0
  simp only [List.getD_cons_zero] at hc0
  have hb1 : bb < w.heap.size + 1 := by omega
  have hb2 : bb < w.heap.size + 1 + 1 := by omega
  have HX := Lib.hid hx
  have HCa := fun W => Lib.hid (o_cut oa W)
  have HCs := fun W => Lib.hid (o_cut (x + cutI oa) W)
  have r1 := cutI_range oa
  obtain ⟨r1, r2⟩ := r1
  clear hf hc hv hx hm f
  by_cases c7 : co = 7
  · have hr : numberS ⟨k, [x], b, t⟩ ⟨co, oa, ob⟩ = (⟨k, [x], b, t⟩, x) := by simp [numberS, c7]
    rw [hr]
    subst c7
    clear hr HCa HCs
    go_enter Try.func27, Try.ntmps27
    go_wp2_with fail
    refine bodyPost_ret (v := .tuple #[.agg #[.int .i64 k, .slice (some ⟨bb, oo, none⟩) 1 c, .bool b, .int .i64 t], .int .i64 x]) ?_ rfl ?_
    · simp [results, Try.results27, go_sem]
    · exact stepp_same HX.out (below3 w _ _ _)
  · have c7' : (co == 7) = false := by simpa using c7
    by_cases ck : k = 0 ∧ co = 1
    · obtain ⟨rfl, rfl⟩ := ck
      have hr : numberS ⟨0, [x], b, t⟩ ⟨1, oa, ob⟩ = (⟨0, [cutI (x + cutI oa)], b, t⟩, x) := by simp [numberS]
      rw [hr]
      clear hr c7 HX
      generalize cutI oa = y at *
      generalize cutI (x + y) = z at *
      go_enter Try.func27, Try.ntmps27
      go_wp2_with fail
      refine (HCa _).out.mono ?_
      rintro e w1 ⟨rfl, rfl⟩
      go_wp2_with fail
      refine (HCs _).out.mono ?_
      rintro e w1 ⟨rfl, rfl⟩
      go_wp2_with fail
      refine bodyPost_ret (v := .tuple #[.agg #[.int .i64 0, .slice (some ⟨w.heap.size + 1 + 1 + 1, 0, none⟩) 1 1, .bool b, .int .i64 t], .int .i64 x]) ?_ rfl ?_
      · simp [results, Try.results27, go_sem]
      · exact stepp_one (below3 w _ _ _) _ (by simp) _ _ _ _ _
    · by_cases ck1 : k = 1 ∧ co = 2
      · obtain ⟨rfl, rfl⟩ := ck1
        have hr : numberS ⟨1, [x], b, t⟩ ⟨2, oa, ob⟩ = (⟨1, [cutI oa], b, t⟩, x) := by simp [numberS]
        rw [hr]
        clear hr c7 HX HCs
        generalize cutI oa = y at *
        go_enter Try.func27, Try.ntmps27
        go_wp2_with fail
        refine (HCa _).out.mono ?_
        rintro e w1 ⟨rfl, rfl⟩
        go_wp2_with fail
        refine bodyPost_ret (v := .tuple #[.agg #[.int .i64 1, .slice (some ⟨w.heap.size + 1 + 1 + 1, 0, none⟩) 1 1, .bool b, .int .i64 t], .int .i64 x]) ?_ rfl ?_
        · simp [results, Try.results27, go_sem]
        · exact stepp_one (below3 w _ _ _) _ (by simp) _ _ _ _ _
      · have hr : numberS ⟨k, [x], b, t⟩ ⟨co, oa, ob⟩ = (⟨k, [x], b, t⟩, 0) := by simp [numberS, c7, ck, ck1]
        rw [hr]
        clear hr HCa HCs c7
        rcases hk with rfl | rfl
        · have c1 : (co == 1) = false := by simp at ck; simpa using ck
          clear ck ck1
          go_enter Try.func27, Try.ntmps27
          go_wp2_with fail
          refine bodyPost_ret (v := .tuple #[.agg #[.int .i64 0, .slice (some ⟨bb, oo, none⟩) 1 c, .bool b, .int .i64 t], .int .i64 0]) ?_ rfl ?_
          · simp [results, Try.results27, go_sem]
          · exact stepp_same HX.out (below3 w _ _ _)
        · have c1 : (co == 2) = false := by simp at ck1; simpa using ck1
          clear ck ck1
          go_enter Try.func27, Try.ntmps27
          go_wp2_with fail
          refine bodyPost_ret (v := .tuple #[.agg #[.int .i64 1, .slice (some ⟨bb, oo, none⟩) 1 c, .bool b, .int .i64 t], .int .i64 0]) ?_ rfl ?_
          · simp [results, Try.results27, go_sem]
          · exact stepp_same HX.out (below3 w _ _ _)

theorem may_line {s : St} (hk : s.kind = 2 ∨ s.kind = 3) (hm : mayB s = true) : s.L.length ≤ 64 := by
  unfold mayB at hm
  split at hm
  · simp at hm
  · have h1 : ¬ (s.kind = 0 ∨ s.kind = 1) := by omega
    first | rw [if_neg h1, if_pos hk] at hm | rw [if_neg h1] at hm | skip
    simp only [Bool.and_eq_true, decide_eq_true_eq] at hm
    exact hm.1
end Go.Proofs.Ytaoagaokocnehaa
