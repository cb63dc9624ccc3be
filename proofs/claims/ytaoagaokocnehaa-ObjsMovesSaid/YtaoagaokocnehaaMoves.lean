/-
  Layer 4: ObjsMoves returns true, whatever the state and the operations.
-/
import Derived.Test.YtaoagaokocnehaaHeld2
import Derived.Test.YtaoagaokocnehaaOpen
import Derived.Test.YtaoagaokocnehaaSum
import Derived.Deep.DeepCutAuto
namespace Go.Proofs.Ytaoagaokocnehaa
set_option linter.unusedVariables false
set_option linter.unusedSimpArgs false
open Go.RowKit

def MovRel (w : World) (B : Nat) (S0 : Int) (wr : World) : Prop := ∃ s, mayB s = true ∧ s.kind = 5 ∧ sumP s.L = S0 ∧ Boxed w wr B s

theorem may_small' {s : St} (h : mayB s = true) : s.L.length ≤ 128 := by
  rcases (mayB_iff.1 h).2 with ⟨_, h, _⟩ | ⟨_, h, _⟩ | ⟨_, h⟩ | ⟨_, h⟩
  · omega
  · omega
  · exact (pairsB_iff.1 h).2.2
  · exact (pairsB_iff.1 h).2.2
theorem may_led {s : St} (h : mayB s = true) (hk : s.kind = 5) : pairsB s.L 0 = true := by
  rcases (mayB_iff.1 h).2 with ⟨e, _⟩ | ⟨e, _⟩ | ⟨e, _⟩ | ⟨_, e⟩
  · omega
  · omega
  · omega
  · exact e

set_option maxRecDepth 100000 in
set_option maxHeartbeats 6400000 in
theorem moves_walk (s0 : St) (l0 : Value) (a1 : Option Addr) (len1 cap1 : Nat) (w : World) (w0 : Rd w l0 s0.L) (hl1 : len1 ≤ 9223372036854775807) (f : Nat → Nat → Int) (hv : IsOps w a1 len1 f 3) :
    Calls Try.prog 8 #[.agg #[.int .i64 s0.kind, l0, .bool s0.isSealed, .int .i64 s0.to], .slice a1 len1 cap1] w (Tells w true) := by
  have H1 := boxed_in s0 w0
  have hS0 := fun W vl (hx : Rd W vl s0.L) => few04 (w := W) s0 hx
  have HH := Lib.hid H1
  clear H1
  by_cases hc300 : s0.L.length ≤ 300
  case neg =>
    rw [decide_eq_false hc300] at hS0
    have HS0 := fun W vl hx => Lib.hid (hS0 W vl hx)
    clear hS0 hc300 hv
    obtain ⟨ki, L, b, t⟩ := s0
    simp only at *
    go_enter Try.func8, Try.ntmps8
    go_wp2_with fail
    refine (awake04 _).mono ?_
    rintro e wa ⟨rfl, hBa⟩
    have hq := HH.out.below hBa
    obtain ⟨aq, cq, ⟨q0, q1, q2, q3⟩, _, hqlt, hqh⟩ := hq.open
    have HA := Lib.hid hq
    have HR := Lib.hid hqh.1
    clear hq hqh hBa
    go_wp2_with fail
    refine (HS0 _ _ HR.out).out.mono ?_
    rintro e wb ⟨rfl, hBb⟩
    have hq := HA.out.below hBb
    obtain ⟨ar, cr, ⟨r0, r1, r2, r3⟩, _, hrlt, hrh⟩ := hq.open
    have HB := Lib.hid hq
    have HRb := Lib.hid hrh.1
    clear hq hrh hBb HA HR q0 q1 q2 q3 HH
    go_wp2_with fail
    go_ret
    exact ⟨rfl, HB.out.2.1⟩
  rw [decide_eq_true hc300] at hS0
  have HS0 := fun W vl hx => Lib.hid (hS0 W vl hx)
  clear hS0
  by_cases hlen : 200 < (len1 : Int)
  · clear hc300 hv
    obtain ⟨ki, L, b, t⟩ := s0
    simp only at *
    go_enter Try.func8, Try.ntmps8
    go_wp2_with fail
    refine (awake04 _).mono ?_
    rintro e wa ⟨rfl, hBa⟩
    have hq := HH.out.below hBa
    obtain ⟨aq, cq, ⟨q0, q1, q2, q3⟩, _, hqlt, hqh⟩ := hq.open
    have HA := Lib.hid hq
    have HR := Lib.hid hqh.1
    clear hq hqh hBa
    go_wp2_with fail
    refine (HS0 _ _ HR.out).out.mono ?_
    rintro e wb ⟨rfl, hBb⟩
    have hq := HA.out.below hBb
    obtain ⟨ar, cr, ⟨r0, r1, r2, r3⟩, _, hrlt, hrh⟩ := hq.open
    have HB := Lib.hid hq
    have HRb := Lib.hid hrh.1
    clear hq hrh hBb HA HR q0 q1 q2 q3 HH
    go_wp2_with fail
    go_ret
    exact ⟨rfl, HB.out.2.1⟩
  by_cases hkind : s0.kind = 5
  case neg =>
    have hk1 : (s0.kind != 5) = true := by simpa using hkind
    clear hc300 hv hkind
    obtain ⟨ki, L, b, t⟩ := s0
    simp only at *
    go_enter Try.func8, Try.ntmps8
    go_wp2_with fail
    refine (awake04 _).mono ?_
    rintro e wa ⟨rfl, hBa⟩
    have hq := HH.out.below hBa
    obtain ⟨aq, cq, ⟨q0, q1, q2, q3⟩, _, hqlt, hqh⟩ := hq.open
    have HA := Lib.hid hq
    have HR := Lib.hid hqh.1
    clear hq hqh hBa
    go_wp2_with fail
    refine (HS0 _ _ HR.out).out.mono ?_
    rintro e wb ⟨rfl, hBb⟩
    have hq := HA.out.below hBb
    obtain ⟨ar, cr, ⟨r0, r1, r2, r3⟩, _, hrlt, hrh⟩ := hq.open
    have HB := Lib.hid hq
    have HRb := Lib.hid hrh.1
    clear hq hrh hBb HA HR q0 q1 q2 q3 HH
    go_wp2_with fail
    go_ret
    exact ⟨rfl, HB.out.2.1⟩
  have hM0 := fun W vl (hx : Rd W vl s0.L) => o_may (w := W) s0 hx (by omega)
  cases hm : mayB s0
  · rw [hm] at hM0
    have HM0 := fun W vl hx => Lib.hid (hM0 W vl hx)
    clear hM0 hm hc300 hv
    obtain ⟨ki, L, b, t⟩ := s0
    simp only at *
    subst hkind
    go_enter Try.func8, Try.ntmps8
    go_wp2_with fail
    refine (awake04 _).mono ?_
    rintro e wa ⟨rfl, hBa⟩
    have hq := HH.out.below hBa
    obtain ⟨aq, cq, ⟨q0, q1, q2, q3⟩, _, hqlt, hqh⟩ := hq.open
    have HA := Lib.hid hq
    have HR := Lib.hid hqh.1
    clear hq hqh hBa
    go_wp2_with fail
    refine (HS0 _ _ HR.out).out.mono ?_
    rintro e wb ⟨rfl, hBb⟩
    have hq := HA.out.below hBb
    obtain ⟨ar, cr, ⟨r0, r1, r2, r3⟩, _, hrlt, hrh⟩ := hq.open
    have HB := Lib.hid hq
    have HRb := Lib.hid hrh.1
    clear hq hrh hBb HA HR q0 q1 q2 q3 HH
    go_wp2_with fail
    refine (HM0 _ _ HRb.out).out.mono ?_
    rintro e wm ⟨rfl, hBm⟩
    have HB := Lib.hid (HB.out.below hBm)
    clear hBm
    go_wp2_with fail
    go_ret
    exact ⟨rfl, HB.out.2.1⟩
  · rw [hm] at hM0
    have HM0 := fun W vl hx => Lib.hid (hM0 W vl hx)
    have HMY := Lib.hid hm
    have HV := Lib.hid hv
    have e0 : s0 = ⟨s0.kind, s0.L, s0.isSealed, s0.to⟩ := rfl
    generalize hki : s0.kind = ki at *
    generalize hL : s0.L = L at *
    generalize hbb : s0.isSealed = b at *
    generalize htt : s0.to = t at *
    subst e0
    clear hM0 hm hc300 hv hki hL hbb htt
    subst hkind
    go_enter Try.func8, Try.ntmps8
    go_wp2_with fail
    refine (awake04 _).mono ?_
    rintro e wa ⟨rfl, hBa⟩
    have hq := HH.out.below hBa
    obtain ⟨aq, cq, ⟨q0, q1, q2, q3⟩, _, hqlt, hqh⟩ := hq.open
    have HA := Lib.hid hq
    have HR := Lib.hid hqh.1
    clear hq hqh hBa
    go_wp2_with fail
    refine (HS0 _ _ HR.out).out.mono ?_
    rintro e wb ⟨rfl, hBb⟩
    have hq := HA.out.below hBb
    obtain ⟨ar, cr, ⟨r0, r1, r2, r3⟩, _, hrlt, hrh⟩ := hq.open
    have HB := Lib.hid hq
    have HRb := Lib.hid hrh.1
    clear hq hrh hBb HA HR q0 q1 q2 q3 HH
    go_wp2_with fail
    refine (HM0 _ _ HRb.out).out.mono ?_
    rintro e wm ⟨rfl, hBm⟩
    have hR2 := (HB.out.below hBm)
    obtain ⟨asx, csx, ⟨s0, s1, s2, s3⟩, _, hslt, hsh⟩ := hR2.open
    have HSU := Lib.hid (sum04 (w := wm) ⟨5, L, b, t⟩ hsh.1 (may_led HMY.out rfl))
    have HB := Lib.hid hR2
    clear hBm HM0 HS0 hR2 hsh r0 r1 r2 r3
    go_wp2_with fail
    refine HSU.out.mono ?_
    rintro e wn ⟨rfl, hBn⟩
    have hrel0 : MovRel w w.heap.size (sumP L) wn := ⟨_, HMY.out, rfl, rfl, HB.out.below hBn⟩
    have HREL := Lib.hid hrel0
    clear hBn HSU HB hrel0 s0 s1 s2 s3
    simp only
    generalize sumP L = S0 at *
    go_wp2_with fail
    go_loopw [8] (fun i wr => ∃ k : Nat, k ≤ len1 ∧ i = .int .i64 k ∧ MovRel w w.heap.size S0 wr) (fun i _ => len1 - (intOf i).toNat)
    case atStart => exact ⟨0, Nat.zero_le _, rfl, HREL.out⟩
    case round =>
      obtain ⟨k, hk, rfl, s, hmay, hkd, hsum, hbx⟩ := hrel
      clear HREL
      by_cases hkl : k < len1
      · obtain ⟨bb, o, rfl, hb, hcells⟩ := HV.out (by omega)
        have hc0 := hcells k 0 hkl (by omega)
        have hc1 := hcells k 1 hkl (by omega)
        have hc2 := hcells k 2 hkl (by omega)
        rw [Nat.add_zero] at hc0
        rw [← hbx.2.1.cell (p := ⟨bb, o + k * 3, none⟩) hb] at hc0
        rw [← hbx.2.1.cell (p := ⟨bb, o + k * 3 + 1, none⟩) hb] at hc1
        rw [← hbx.2.1.cell (p := ⟨bb, o + k * 3 + 2, none⟩) hb] at hc2
        have hbw : bb < wr.heap.size := Nat.lt_of_lt_of_le hb hbx.2.1.size
        obtain ⟨hm2, hkd2, hx1, hx2⟩ := step_stays (s := s) ⟨9, f k 1, f k 2⟩ hmay
        clear hx1 hx2
        obtain ⟨hsm2, hrs⟩ := step_moves (s := s) ⟨9, f k 1, f k 2⟩ hmay hkd rfl
        rw [hsum] at hsm2
        rw [hkd] at hkd2
        have hsz := may_small' hmay
        have hsz2 := may_small' hm2
        have hS := fun W vl (hx : Rd W vl s.L) => o_step (w := W) (vl := vl) s ⟨9, f k 1, f k 2⟩ hx (by omega)
        generalize f k 0 = co at *
        generalize f k 1 = oa at *
        generalize f k 2 = ob at *
        generalize stepS s ⟨9, oa, ob⟩ = r at *
        obtain ⟨⟨ki', l2, bt, t2⟩, n⟩ := r
        obtain ⟨ki, L2, b2, tt⟩ := s
        simp only at hkd hkd2 hrs hsm2 hm2 hsz hsz2 hS hmay hbx
        subst hkd
        subst hkd2
        clear hcells HV HMY hmay hsum
        have hM := fun W vl (hx : Rd W vl l2) => o_may (w := W) (vl := vl) ⟨5, l2, bt, t2⟩ hx (by simp only; omega)
        have hU := fun W vl (hx : Rd W vl l2) => sum04 (w := W) (vl := vl) ⟨5, l2, bt, t2⟩ hx (may_led hm2 rfl)
        have hE := fun W vl ul (hx : Rd W vl L2) (hy : Rd W ul l2) => o_same (w := W) (vl := vl) (ul := ul) ⟨5, L2, b2, tt⟩ ⟨5, l2, bt, t2⟩ hx hy
        rw [hm2] at hM
        simp only [hsm2] at hU
        have HS := fun W vl hx => Lib.hid (hS W vl hx)
        have HM := fun W vl hx => Lib.hid (hM W vl hx)
        have HU := fun W vl hx => Lib.hid (hU W vl hx)
        have HE := fun W vl ul hx hy => Lib.hid (hE W vl ul hx hy)
        have HMT := Lib.hid (⟨hm2, rfl, hsm2⟩ : mayB ⟨5, l2, bt, t2⟩ = true ∧ (5 : Int) = 5 ∧ sumP l2 = S0)
        have HRS := Lib.hid hrs
        obtain ⟨aq, cq, ⟨q0, q1, q2, q3⟩, ⟨qf0, qf1, qf2, qf3⟩, hqlt, hqh⟩ := hbx.open
        simp only at q0 q1 q2 q3 hqh
        have HB := Lib.hid hbx
        have HQH := Lib.hid hqh
        clear hS hM hU hE hm2 hsz hsz2 hbx hqh hsm2 hrs
        go_wp2_with fail
        have hop := (Below.refl wr.heap.size wr).alloc (Nat.le_refl _) (.cells #[.int .i64 9, .int .i64 oa, .int .i64 ob] 26)
        refine (HS _ _ (HQH.out.1.below hop (Nat.le_refl _))).out.mono ?_
        rintro e w4 ⟨v4, rfl, hrd4, hb4, hor4⟩
        obtain ⟨a4, c4, rfl, _⟩ := id hrd4
        obtain ⟨hN1, hN0, hN2⟩ := boxed_new (s := ⟨5, L2, b2, tt⟩) (t := ⟨5, l2, bt, t2⟩) HB.out.2.1 hop HQH.out hrd4 hb4 hor4
        have hbx5 := HB.out.below hN2
        have HNR := Lib.hid (hrd4.alloc (.cells #[.int .i64 5, .slice a4 l2.length c4, .bool bt, .int .i64 t2] 24))
        have HX4 := Lib.hid hbx5
        have HY4 := Lib.hid hN1
        have hlt4 : w.heap.size < w4.heap.size := by have := hqlt; omega
        clear hop hrd4 hb4 hor4 hN1 hN2 hbx5
        have hn1 : n = 1 ∨ (n != 1) = true := by
          by_cases h : n = 1
          · exact .inl h
          · exact .inr (by simpa using h)
        go_wp2_with fail
        refine (HU _ _ HNR.out).out.mono ?_
        rintro e w5 ⟨rfl, hb5⟩
        have b1 := HX4.out.below hb5
        have b2 := HY4.out.below hb5
        obtain ⟨aN5, cN5, ⟨n0, n1, n2, n3⟩, _, hNlt, hNh⟩ := b2.open
        obtain ⟨aB5, cB5, ⟨r0, r1, r2, r3⟩, ⟨rf0, rf1, rf2, rf3⟩, hrlt, hrh⟩ := b1.open
        simp only at n0 n1 n2 n3 r0 r1 r2 r3 hNh hrh
        have HX5 := Lib.hid b1
        have HY5 := Lib.hid b2
        have HN5 := Lib.hid hNh.1
        have HR5 := Lib.hid hrh.1
        clear b1 b2 hb5 hNh hrh HX4 HY4 HNR
        go_wp2_with fail
        refine (HM _ _ HN5.out).out.mono ?_
        rintro e w6 ⟨rfl, hb6⟩
        rcases hn1 with rfl | hn1
        · have b1 := HX5.out.below hb6
          have b2 := HY5.out.below hb6
          obtain ⟨aN6, cN6, ⟨n0, n1, n2, n3⟩, _, hNlt, hNh⟩ := b2.open
          obtain ⟨aB6, cB6, ⟨r0, r1, r2, r3⟩, ⟨rf0, rf1, rf2, rf3⟩, hrlt, hrh⟩ := b1.open
          simp only at n0 n1 n2 n3 r0 r1 r2 r3 hNh hrh
          have HX6 := Lib.hid b1
          have HY6 := Lib.hid b2
          have HN6 := Lib.hid hNh.1
          have HR6 := Lib.hid hrh.1
          clear b1 b2 hb6 hNh hrh HX5 HY5 HN5 HR5
          have HH := Lib.hid (Boxed.assign HX6.out HY6.out n1)
          have e1 : w4.heap.size ≠ w.heap.size := by omega
          clear HX6 HY6
          go_wp2_with fail
          go_roundw
          case rel => exact ⟨k + 1, by omega, by go_num, _, HMT.out.1, rfl, HMT.out.2.2, HH.out⟩
          case measure => simp [intOf]; omega
        · obtain e2 : (⟨5, l2, bt, t2⟩ : St) = ⟨5, L2, b2, tt⟩ := HRS.out.resolve_left (by simpa using hn1)
          obtain ⟨_, rfl, rfl, rfl⟩ := St.mk.inj e2
          clear e2
          have es : sameB (⟨5, l2, bt, t2⟩ : St) ⟨5, l2, bt, t2⟩ = true := by simp [sameB]
          rw [es] at HE
          clear es
          have b1 := HX5.out.below hb6
          have b2 := HY5.out.below hb6
          obtain ⟨aN6, cN6, ⟨n0, n1, n2, n3⟩, _, hNlt, hNh⟩ := b2.open
          obtain ⟨aB6, cB6, ⟨r0, r1, r2, r3⟩, ⟨rf0, rf1, rf2, rf3⟩, hrlt, hrh⟩ := b1.open
          simp only at n0 n1 n2 n3 r0 r1 r2 r3 hNh hrh
          have HX6 := Lib.hid b1
          have HY6 := Lib.hid b2
          have HN6 := Lib.hid hNh.1
          have HR6 := Lib.hid hrh.1
          clear b1 b2 hb6 hNh hrh HX5 HY5 HN5 HR5
          go_wp2_with fail
          refine (HE _ _ _ HR6.out HN6.out).out.mono ?_
          rintro e w7 ⟨rfl, hb7⟩
          have b1 := HX6.out.below hb7
          have b2 := HY6.out.below hb7
          obtain ⟨aN7, cN7, ⟨n0, n1, n2, n3⟩, _, hNlt, hNh⟩ := b2.open
          obtain ⟨aB7, cB7, ⟨r0, r1, r2, r3⟩, ⟨rf0, rf1, rf2, rf3⟩, hrlt, hrh⟩ := b1.open
          simp only at n0 n1 n2 n3 r0 r1 r2 r3 hNh hrh
          have HX7 := Lib.hid b1
          have HY7 := Lib.hid b2
          have HN7 := Lib.hid hNh.1
          have HR7 := Lib.hid hrh.1
          clear b1 b2 hb7 hNh hrh HX6 HY6 HN6 HR6
          have HH := Lib.hid (Boxed.assign HX7.out HY7.out n1)
          have e1 : w4.heap.size ≠ w.heap.size := by omega
          clear HX7 HY7
          go_wp2_with fail
          go_roundw
          case rel => exact ⟨k + 1, by omega, by go_num, _, HMT.out.1, rfl, HMT.out.2.2, HH.out⟩
          case measure => simp [intOf]; omega
      · have HL := Lib.hid hbx.2.1
        clear hbx hmay
        go_wp2_with fail
        go_ret
        exact ⟨rfl, HL.out⟩
end Go.Proofs.Ytaoagaokocnehaa
