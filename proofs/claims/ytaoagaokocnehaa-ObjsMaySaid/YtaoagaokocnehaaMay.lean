/-
  Layer 4: ObjsMay returns true, whatever the states, the operation and the kind.
-/
import Derived.Test.YtaoagaokocnehaaAwk04
import Derived.Test.YtaoagaokocnehaaRmay
import Derived.Test.YtaoagaokocnehaaRstart
import Derived.Test.YtaoagaokocnehaaRsame
import Derived.Deep.RegionHeld3
import Derived.Deep.DrawnRows
namespace Go.Proofs.Ytaoagaokocnehaa
set_option linter.unusedVariables false
set_option linter.unusedSimpArgs false
open Go.RowKit
attribute [local go_sem ↓] Go.wp_at_zero Go.wp_at_succ

theorem belW {B : Nat} {w W W' : World} (h : Hid (Below B w W)) (hs : B = w.heap.size) (h2 : Below W.heap.size W W') : Hid (Below B w W') := Lib.hid (h.out.trans (h2.mono (hs ▸ h.out.size)))

set_option maxRecDepth 100000 in
set_option maxHeartbeats 6400000 in
theorem may_walk (s0 t0 : St) (l0 l1 : Value) (o : Op3) (kind : Int) (w : World) (w0 : Rd w l0 s0.L) (w1 : Rd w l1 t0.L) :
    Calls Try.prog 9 #[.agg #[.int .i64 s0.kind, l0, .bool s0.isSealed, .int .i64 s0.to], .agg #[.int .i64 t0.kind, l1, .bool t0.isSealed, .int .i64 t0.to], .agg #[.int .i64 o.code, .int .i64 o.a, .int .i64 o.b], .int .i64 kind] w (Tells w true) := by
  obtain ⟨n0, a0, c0, f0, rfl, hn0, _, _, _, _⟩ := w0.view
  obtain ⟨n1, a1, c1, f1, rfl, hn1, _, _, _, _⟩ := w1.view
  obtain ⟨k, L, b, d⟩ := s0
  obtain ⟨k', L', b', d'⟩ := t0
  obtain ⟨co, oa, ob⟩ := o
  simp only at w0 w1 hn0 hn1 ⊢
  have B0 : Below w.heap.size w (((w.alloc (.cells #[.int .i64 k, .slice a0 n0 c0, .bool b, .int .i64 d] 24)).alloc (.cells #[.int .i64 k', .slice a1 n1 c1, .bool b', .int .i64 d'] 24)).alloc (.cells #[.int .i64 co, .int .i64 oa, .int .i64 ob] 26)) := ((Below.refl _ w).alloc (Nat.le_refl _) _).alloc (by simp) _ |>.alloc (by simp; omega) _
  have ks := ((Blk.new w #[.int .i64 k, .slice a0 n0 c0, .bool b, .int .i64 d] 24).alloc (.cells #[.int .i64 k', .slice a1 n1 c1, .bool b', .int .i64 d'] 24)).alloc (.cells #[.int .i64 co, .int .i64 oa, .int .i64 ob] 26)
  have kt := (Blk.new (w.alloc (.cells #[.int .i64 k, .slice a0 n0 c0, .bool b, .int .i64 d] 24)) #[.int .i64 k', .slice a1 n1 c1, .bool b', .int .i64 d'] 24).alloc (.cells #[.int .i64 co, .int .i64 oa, .int .i64 ob] 26)
  have ko := Blk.new ((w.alloc (.cells #[.int .i64 k, .slice a0 n0 c0, .bool b, .int .i64 d] 24)).alloc (.cells #[.int .i64 k', .slice a1 n1 c1, .bool b', .int .i64 d'] 24)) #[.int .i64 co, .int .i64 oa, .int .i64 ob] 26
  simp only [World.size_alloc] at kt ko
  have rs := w0.below B0 (Nat.le_refl _)
  have rt := w1.below B0 (Nat.le_refl _)
  have HD0 := Lib.hid B0
  obtain ⟨W0, hW0⟩ : ∃ W0, W0 = (((w.alloc (.cells #[.int .i64 k, .slice a0 n0 c0, .bool b, .int .i64 d] 24)).alloc (.cells #[.int .i64 k', .slice a1 n1 c1, .bool b', .int .i64 d'] 24)).alloc (.cells #[.int .i64 co, .int .i64 oa, .int .i64 ob] 26)) := ⟨_, rfl⟩
  rw [← hW0] at ks kt ko rs rt HD0
  have KS : ∀ W, Hid (Below W0.heap.size W0 W) → Hid (Below W0.heap.size W0 W) ∧ (W.cell? ⟨w.heap.size, 0, none⟩ = some (.int .i64 k) ∧ W.cell? ⟨w.heap.size, 1, none⟩ = some (.slice a0 n0 c0) ∧ W.cell? ⟨w.heap.size, 2, none⟩ = some (.bool b) ∧ W.cell? ⟨w.heap.size, 3, none⟩ = some (.int .i64 d)) ∧
      (W.cell? ⟨w.heap.size + 1, 0, none⟩ = some (.int .i64 k') ∧ W.cell? ⟨w.heap.size + 1, 1, none⟩ = some (.slice a1 n1 c1) ∧ W.cell? ⟨w.heap.size + 1, 2, none⟩ = some (.bool b') ∧ W.cell? ⟨w.heap.size + 1, 3, none⟩ = some (.int .i64 d')) ∧
      (W.cell? ⟨w.heap.size + 1 + 1, 0, none⟩ = some (.int .i64 co) ∧ W.cell? ⟨w.heap.size + 1 + 1, 1, none⟩ = some (.int .i64 oa) ∧ W.cell? ⟨w.heap.size + 1 + 1, 2, none⟩ = some (.int .i64 ob)) := fun W h => by
    have q1 := ks.below h.out ks.lt
    have q2 := kt.below h.out kt.lt
    have q3 := ko.below h.out ko.lt
    exact ⟨h, ⟨q1.cell 0, q1.cell 1, q1.cell 2, q1.cell 3⟩, ⟨q2.cell 0, q2.cell 1, q2.cell 2, q2.cell 3⟩, q3.cell 0, q3.cell 1, q3.cell 2⟩
  have RS := Lib.hid (fun W (h : Hid (Below W0.heap.size W0 W)) => rs.below h.out (Nat.le_refl _))
  have RT := Lib.hid (fun W (h : Hid (Below W0.heap.size W0 W)) => rt.below h.out (Nat.le_refl _))
  have FINI := Lib.hid (fun W (h : Hid (Below W0.heap.size W0 W)) => HD0.out.trans (h.out.mono HD0.out.size))
  have KS := Lib.hid KS
  have HF1 := fun W (hx : Rd W (.slice a0 n0 c0) L) => few04 (w := W) ⟨k, L, b, d⟩ hx
  have HF2 := fun W (hx : Rd W (.slice a1 n1 c1) L') => few04 (w := W) ⟨k', L', b', d'⟩ hx
  have D0 : Hid (Below W0.heap.size W0 W0) := Lib.hid (Below.refl _ _)
  clear ks kt ko rs rt HD0 B0
  have HW0 := Lib.hid hW0
  clear hW0 w0 w1
  by_cases hc1 : L.length ≤ 300
  case neg =>
    simp only [decide_eq_false hc1] at HF1
    clear hc1 hn0 hn1
    generalize decide (L'.length ≤ 300) = d3 at *
    go_enter Try.func9, Try.ntmps9
    go_wp2_with fail
    rw [← HW0.out]
    refine (awake04 _).mono ?_
    rintro e wa ⟨rfl, hBa⟩
    have D1 := belW D0 rfl hBa
    obtain ⟨_, ⟨q0, q1, q2, q3⟩, ⟨p0, p1, p2, p3⟩, o0, o1, o2⟩ := KS.out _ D1
    clear hBa
    go_wp2_with fail
    refine (HF1 _ (RS.out _ D1)).mono ?_
    rintro e wb ⟨rfl, hBb⟩
    have D2 := belW D1 rfl hBb
    clear hBb q0 q1 q2 q3 p0 p1 p2 p3 o0 o1 o2
    obtain ⟨_, ⟨q0, q1, q2, q3⟩, ⟨p0, p1, p2, p3⟩, o0, o1, o2⟩ := KS.out _ D2
    go_wp2_with fail
    refine (HF2 _ (RT.out _ D2)).mono ?_
    rintro e wc ⟨rfl, hBc⟩
    have D3 := belW D2 rfl hBc
    clear hBc q0 q1 q2 q3 p0 p1 p2 p3 o0 o1 o2
    obtain ⟨_, ⟨q0, q1, q2, q3⟩, ⟨p0, p1, p2, p3⟩, o0, o1, o2⟩ := KS.out _ D3
    go_wp2_with fail
    go_ret
    exact ⟨rfl, FINI.out _ D3⟩
  simp only [decide_eq_true hc1] at HF1
  by_cases hc2 : L'.length ≤ 300
  case neg =>
    simp only [decide_eq_false hc2] at HF2
    clear hc1 hc2 hn0 hn1
    go_enter Try.func9, Try.ntmps9
    go_wp2_with fail
    rw [← HW0.out]
    refine (awake04 _).mono ?_
    rintro e wa ⟨rfl, hBa⟩
    have D1 := belW D0 rfl hBa
    obtain ⟨_, ⟨q0, q1, q2, q3⟩, ⟨p0, p1, p2, p3⟩, o0, o1, o2⟩ := KS.out _ D1
    clear hBa
    go_wp2_with fail
    refine (HF1 _ (RS.out _ D1)).mono ?_
    rintro e wb ⟨rfl, hBb⟩
    have D2 := belW D1 rfl hBb
    clear hBb q0 q1 q2 q3 p0 p1 p2 p3 o0 o1 o2
    obtain ⟨_, ⟨q0, q1, q2, q3⟩, ⟨p0, p1, p2, p3⟩, o0, o1, o2⟩ := KS.out _ D2
    go_wp2_with fail
    refine (HF2 _ (RT.out _ D2)).mono ?_
    rintro e wc ⟨rfl, hBc⟩
    have D3 := belW D2 rfl hBc
    clear hBc q0 q1 q2 q3 p0 p1 p2 p3 o0 o1 o2
    obtain ⟨_, ⟨q0, q1, q2, q3⟩, ⟨p0, p1, p2, p3⟩, o0, o1, o2⟩ := KS.out _ D3
    go_wp2_with fail
    go_ret
    exact ⟨rfl, FINI.out _ D3⟩
  simp only [decide_eq_true hc2] at HF2
  have HM1 := fun W (hx : Rd W (.slice a0 n0 c0) L) => o_may (w := W) ⟨k, L, b, d⟩ hx (by simp only; omega)
  have HM2 := fun W (hx : Rd W (.slice a0 n0 c0) L) => r_may (w := W) ⟨k, L, b, d⟩ hx
  have HT1 := fun W => o_fits (w := W) ⟨co, oa, ob⟩
  have HT2 := fun W => r_fits (w := W) ⟨co, oa, ob⟩
  have HE1 := fun W (hx : Rd W (.slice a0 n0 c0) L) (hy : Rd W (.slice a1 n1 c1) L') => o_same (w := W) ⟨k, L, b, d⟩ ⟨k', L', b', d'⟩ hx hy
  have HE2 := fun W (hx : Rd W (.slice a0 n0 c0) L) (hy : Rd W (.slice a1 n1 c1) L') => r_same (w := W) ⟨k, L, b, d⟩ ⟨k', L', b', d'⟩ hx hy
  have HE3 := fun W (hx : Rd W (.slice a0 n0 c0) L) (hy : Rd W (.slice a0 n0 c0) L) => o_same (w := W) ⟨k, L, b, d⟩ ⟨k, L, b, d⟩ hx hy
  have es : sameB ⟨k, L, b, d⟩ ⟨k, L, b, d⟩ = true := by simp [sameB]
  rw [es] at HE3
  have ez : sameB (startS kind) (startS kind) = true := by simp [sameB]
  have HZ := fun W v u (hx : Rd W v (startS kind).L) (hy : Rd W u (startS kind).L) => r_same (w := W) (startS kind) (startS kind) hx hy
  rw [ez] at HZ
  have HO := fun W => o_start (w := W) kind
  have HR := fun W => r_start (w := W) kind
  generalize mayB ⟨k, L, b, d⟩ = mb at *
  generalize fitsB ⟨co, oa, ob⟩ = fb at *
  generalize sameB ⟨k, L, b, d⟩ ⟨k', L', b', d'⟩ = sb at *
  generalize startS kind = z at *
  simp only at HM1 HM2 HT1 HT2 HE1 HE2 HE3 HF1 HF2
  have m1 : (mb == mb) = true := by simp
  have m2 : (fb == fb) = true := by simp
  have m3 : (sb == sb) = true := by simp
  have HO := fun W => Lib.hid (HO W)
  have HR := fun W => Lib.hid (HR W)
  have HZ := fun W v u hx hy => Lib.hid (HZ W v u hx hy)
  have GHE1 := fun W (q : Hid (Below W0.heap.size W0 W)) => HE1 W (RS.out _ q) (RT.out _ q)
  have GHE2 := fun W (q : Hid (Below W0.heap.size W0 W)) => HE2 W (RS.out _ q) (RT.out _ q)
  have GHE3 := fun W (q : Hid (Below W0.heap.size W0 W)) => HE3 W (RS.out _ q) (RS.out _ q)
  clear es ez hc1 hc2 hn0 hn1 HE1 HE2 HE3
  go_enter Try.func9, Try.ntmps9
  go_wp2_with fail
  rw [← HW0.out]
  refine (awake04 _).mono ?_
  rintro e wa ⟨rfl, hBa⟩
  have D1 := belW D0 rfl hBa
  obtain ⟨_, ⟨q0, q1, q2, q3⟩, ⟨p0, p1, p2, p3⟩, o0, o1, o2⟩ := KS.out _ D1
  clear hBa
  go_wp2_with fail
  refine (HF1 _ (RS.out _ D1)).mono ?_
  rintro e wb ⟨rfl, hBb⟩
  have D2 := belW D1 rfl hBb
  clear hBb q0 q1 q2 q3 p0 p1 p2 p3 o0 o1 o2
  obtain ⟨_, ⟨q0, q1, q2, q3⟩, ⟨p0, p1, p2, p3⟩, o0, o1, o2⟩ := KS.out _ D2
  go_wp2_with fail
  refine (HF2 _ (RT.out _ D2)).mono ?_
  rintro e wc ⟨rfl, hBc⟩
  have D3 := belW D2 rfl hBc
  clear hBc q0 q1 q2 q3 p0 p1 p2 p3 o0 o1 o2
  obtain ⟨_, ⟨q0, q1, q2, q3⟩, ⟨p0, p1, p2, p3⟩, o0, o1, o2⟩ := KS.out _ D3
  go_wp2_with fail
  refine (HO _).out.mono ?_
  rintro e w4 ⟨v4, rfl, hrd4, hb4, _⟩
  have D4 := belW D3 rfl hb4
  have R4 := Lib.hid hrd4
  clear hb4 hrd4 q0 q1 q2 q3 p0 p1 p2 p3 o0 o1 o2
  go_wp2_with fail
  refine (HR _).out.mono ?_
  rintro e w5 ⟨v5, rfl, hrd5, hb5, _⟩
  have D5 := belW D4 rfl hb5
  have R5 := Lib.hid hrd5
  have R4' := Lib.hid (R4.out.below hb5 (Nat.le_refl _))
  clear hb5 hrd5 R4
  go_wp2_with fail
  refine (HZ _ _ _ R4'.out R5.out).out.mono ?_
  rintro e w6 ⟨rfl, hb6⟩
  have D6 := belW D5 rfl hb6
  clear hb6 R5 R4' D1 D2 D3 D4 D5
  have D7 : Hid (Below W0.heap.size W0 w6.drew) := Lib.hid D6.out.drew
  go_wp2_with fail
  go_region_held3 (fun W => Hid (Below W0.heap.size W0 W) ∧ (W.cell? ⟨w.heap.size, 0, none⟩ = some (.int .i64 k) ∧ W.cell? ⟨w.heap.size, 1, none⟩ = some (.slice a0 n0 c0) ∧ W.cell? ⟨w.heap.size, 2, none⟩ = some (.bool b) ∧ W.cell? ⟨w.heap.size, 3, none⟩ = some (.int .i64 d)) ∧ (W.cell? ⟨w.heap.size + 1, 0, none⟩ = some (.int .i64 k') ∧ W.cell? ⟨w.heap.size + 1, 1, none⟩ = some (.slice a1 n1 c1) ∧ W.cell? ⟨w.heap.size + 1, 2, none⟩ = some (.bool b') ∧ W.cell? ⟨w.heap.size + 1, 3, none⟩ = some (.int .i64 d')) ∧ (W.cell? ⟨w.heap.size + 1 + 1, 0, none⟩ = some (.int .i64 co) ∧ W.cell? ⟨w.heap.size + 1 + 1, 1, none⟩ = some (.int .i64 oa) ∧ W.cell? ⟨w.heap.size + 1 + 1, 2, none⟩ = some (.int .i64 ob)))
    (exact KS.out _ (by assumption))
    (first | (go_at_call 20; refine (HM1 _ (RS.out _ (by assumption))).mono ?_; rintro e x1 ⟨rfl, hb⟩; have fx1 := belW (by assumption) rfl hb; clear hb) | (go_at_call 24; refine (HM2 _ (RS.out _ (by assumption))).mono ?_; rintro e x2 ⟨rfl, hb⟩; have fx2 := belW (by assumption) rfl hb; clear hb) | (go_at_call 25; refine (HT1 _).mono ?_; rintro e x3 ⟨rfl, hb⟩; have fx3 := belW (by assumption) rfl hb; clear hb) | (go_at_call 26; refine (HT2 _).mono ?_; rintro e x4 ⟨rfl, hb⟩; have fx4 := belW (by assumption) rfl hb; clear hb) | (go_at_call 21; (with_reducible show Calls _ _ #[.agg #[.int .i64 k, .slice a0 n0 c0, .bool b, .int .i64 d], .agg #[.int .i64 k', .slice a1 n1 c1, .bool b', .int .i64 d']] _ _); refine (GHE1 _ (by assumption)).mono ?_; rintro e x5 ⟨rfl, hb⟩; have fx5 := belW (by assumption) rfl hb; clear hb) | (go_at_call 15; refine (GHE2 _ (by assumption)).mono ?_; rintro e x6 ⟨rfl, hb⟩; have fx6 := belW (by assumption) rfl hb; clear hb) | (go_at_call 21; (with_reducible show Calls _ _ #[.agg #[.int .i64 k, .slice a0 n0 c0, .bool b, .int .i64 d], .agg #[.int .i64 k, .slice a0 n0 c0, .bool b, .int .i64 d]] _ _); refine (GHE3 _ (by assumption)).mono ?_; rintro e x7 ⟨rfl, hb⟩; have fx7 := belW (by assumption) rfl hb; clear hb))
  all_goals
    go_wp2_with fail
    go_ret
    exact ⟨rfl, FINI.out _ (by assumption)⟩
end Go.Proofs.Ytaoagaokocnehaa
