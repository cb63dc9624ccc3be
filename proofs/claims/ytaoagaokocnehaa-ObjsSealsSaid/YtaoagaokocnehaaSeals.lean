/-
  Layer 4: ObjsSeals returns true, whatever the state, the engine and the operations.
-/
import Derived.Test.YtaoagaokocnehaaFold
import Derived.Test.YtaoagaokocnehaaInts
namespace Go.Proofs.Ytaoagaokocnehaa
set_option linter.unusedVariables false
set_option linter.unusedSimpArgs false
open Go.RowKit

theorem fold_sealed : ∀ (l : List Op3) (s : St), mayB s = true → s.isSealed = true → foldS s l = (s, List.replicate l.length (-1125899906842624))
  | [], s, _, _ => rfl
  | o :: l, s, h, hs => by
    have e := (step_stays o h).2.2.1 hs
    rw [foldS, e]
    simp only [fold_sealed l s h hs, List.length_cons, List.replicate_succ]
theorem seal_step {s : St} {e : Int} (h : mayB s = true) (hs : s.isSealed = false) (h1 : 0 ≤ e) (h2 : e < 3) : stepS s ⟨10, e, 0⟩ = (⟨s.kind, s.L, true, e⟩, 0) := by
  unfold stepS
  rw [if_neg (by simp [h]), if_neg (by simp [hs]), if_pos rfl, if_pos ⟨h1, h2⟩]

theorem IsOps.below {w W : World} {a : Option Addr} {len m : Nat} {f : Nat → Nat → Int} (h : IsOps w a len f m) (hB : Below w.heap.size w W) : IsOps W a len f m := fun h0 => by
  obtain ⟨b, o, e, hb, hc⟩ := h h0
  exact ⟨b, o, e, Nat.lt_of_lt_of_le hb hB.size, fun i j hi hj => (hB.cell (p := ⟨b, o + i * m + j, none⟩) hb).trans (hc i j hi hj)⟩

set_option maxRecDepth 100000 in
set_option maxHeartbeats 6400000 in
theorem seals_walk (s0 : St) (l0 : Value) (en : Int) (a1 : Option Addr) (len1 cap1 : Nat) (w : World) (w0 : Rd w l0 s0.L) (hl1 : len1 ≤ 9223372036854775807) (f : Nat → Nat → Int) (hv : IsOps w a1 len1 f 3) :
    Calls Try.prog 10 #[.agg #[.int .i64 s0.kind, l0, .bool s0.isSealed, .int .i64 s0.to], .int .i64 en, .slice a1 len1 cap1] w (Tells w true) := by
  have H1 := boxed_in s0 w0
  have hS0 := fun W vl (hx : Rd W vl s0.L) => few04 (w := W) s0 hx
  have HH := Lib.hid H1
  clear H1
  by_cases hc300 : s0.L.length ≤ 300
  case neg =>
    rw [decide_eq_false hc300] at hS0
    have HS0 := fun W vl hx => Lib.hid (hS0 W vl hx)
    clear hS0 hc300 hv
    obtain ⟨ki, L, b, t⟩ := s0
    simp only at *
    go_enter Try.func10, Try.ntmps10
    go_wp2_with fail
    refine (awake04 _).mono ?_
    rintro e wa ⟨rfl, hBa⟩
    have hq := HH.out.below hBa
    obtain ⟨aq, cq, ⟨q0, q1, q2, q3⟩, _, hqlt, hqh⟩ := hq.open
    have HA := Lib.hid hq
    have HR := Lib.hid hqh.1
    clear hq hqh hBa
    go_wp2_with fail
    refine (HS0 _ _ HR.out).out.mono ?_
    rintro e wb ⟨rfl, hBb⟩
    have hq := HA.out.below hBb
    obtain ⟨ar, cr, ⟨r0, r1, r2, r3⟩, _, hrlt, hrh⟩ := hq.open
    have HB := Lib.hid hq
    have HRb := Lib.hid hrh.1
    clear hq hrh hBb HA HR q0 q1 q2 q3 HH
    go_wp2_with fail
    go_ret
    exact ⟨rfl, HB.out.2.1⟩
  rw [decide_eq_true hc300] at hS0
  have HS0 := fun W vl hx => Lib.hid (hS0 W vl hx)
  clear hS0
  have hM0 := fun W vl (hx : Rd W vl s0.L) => o_may (w := W) s0 hx (by omega)
  have e0 : s0 = ⟨s0.kind, s0.L, s0.isSealed, s0.to⟩ := rfl
  cases hsl : s0.isSealed
  case true =>
    clear hc300 hv hM0 e0
    obtain ⟨ki, L, b, t⟩ := s0
    simp only at *
    subst hsl
    go_enter Try.func10, Try.ntmps10
    go_wp2_with fail
    refine (awake04 _).mono ?_
    rintro e wa ⟨rfl, hBa⟩
    have hq := HH.out.below hBa
    obtain ⟨aq, cq, ⟨q0, q1, q2, q3⟩, _, hqlt, hqh⟩ := hq.open
    have HA := Lib.hid hq
    have HR := Lib.hid hqh.1
    clear hq hqh hBa
    go_wp2_with fail
    refine (HS0 _ _ HR.out).out.mono ?_
    rintro e wb ⟨rfl, hBb⟩
    have hq := HA.out.below hBb
    obtain ⟨ar, cr, ⟨r0, r1, r2, r3⟩, _, hrlt, hrh⟩ := hq.open
    have HB := Lib.hid hq
    have HRb := Lib.hid hrh.1
    clear hq hrh hBb HA HR q0 q1 q2 q3 HH
    go_wp2_with fail
    go_ret
    exact ⟨rfl, HB.out.2.1⟩
  by_cases he1 : en < 0
  · clear hc300 hv hM0 e0
    obtain ⟨ki, L, b, t⟩ := s0
    simp only at *
    subst hsl
    go_enter Try.func10, Try.ntmps10
    go_wp2_with fail
    refine (awake04 _).mono ?_
    rintro e wa ⟨rfl, hBa⟩
    have hq := HH.out.below hBa
    obtain ⟨aq, cq, ⟨q0, q1, q2, q3⟩, _, hqlt, hqh⟩ := hq.open
    have HA := Lib.hid hq
    have HR := Lib.hid hqh.1
    clear hq hqh hBa
    go_wp2_with fail
    refine (HS0 _ _ HR.out).out.mono ?_
    rintro e wb ⟨rfl, hBb⟩
    have hq := HA.out.below hBb
    obtain ⟨ar, cr, ⟨r0, r1, r2, r3⟩, _, hrlt, hrh⟩ := hq.open
    have HB := Lib.hid hq
    have HRb := Lib.hid hrh.1
    clear hq hrh hBb HA HR q0 q1 q2 q3 HH
    go_wp2_with fail
    go_ret
    exact ⟨rfl, HB.out.2.1⟩
  by_cases he2 : 2 < en
  · clear hc300 hv hM0 e0
    obtain ⟨ki, L, b, t⟩ := s0
    simp only at *
    subst hsl
    go_enter Try.func10, Try.ntmps10
    go_wp2_with fail
    refine (awake04 _).mono ?_
    rintro e wa ⟨rfl, hBa⟩
    have hq := HH.out.below hBa
    obtain ⟨aq, cq, ⟨q0, q1, q2, q3⟩, _, hqlt, hqh⟩ := hq.open
    have HA := Lib.hid hq
    have HR := Lib.hid hqh.1
    clear hq hqh hBa
    go_wp2_with fail
    refine (HS0 _ _ HR.out).out.mono ?_
    rintro e wb ⟨rfl, hBb⟩
    have hq := HA.out.below hBb
    obtain ⟨ar, cr, ⟨r0, r1, r2, r3⟩, _, hrlt, hrh⟩ := hq.open
    have HB := Lib.hid hq
    have HRb := Lib.hid hrh.1
    clear hq hrh hBb HA HR q0 q1 q2 q3 HH
    go_wp2_with fail
    go_ret
    exact ⟨rfl, HB.out.2.1⟩
  by_cases hlen : 200 < (len1 : Int)
  · clear hc300 hv hM0 e0
    obtain ⟨ki, L, b, t⟩ := s0
    simp only at *
    subst hsl
    go_enter Try.func10, Try.ntmps10
    go_wp2_with fail
    refine (awake04 _).mono ?_
    rintro e wa ⟨rfl, hBa⟩
    have hq := HH.out.below hBa
    obtain ⟨aq, cq, ⟨q0, q1, q2, q3⟩, _, hqlt, hqh⟩ := hq.open
    have HA := Lib.hid hq
    have HR := Lib.hid hqh.1
    clear hq hqh hBa
    go_wp2_with fail
    refine (HS0 _ _ HR.out).out.mono ?_
    rintro e wb ⟨rfl, hBb⟩
    have hq := HA.out.below hBb
    obtain ⟨ar, cr, ⟨r0, r1, r2, r3⟩, _, hrlt, hrh⟩ := hq.open
    have HB := Lib.hid hq
    have HRb := Lib.hid hrh.1
    clear hq hrh hBb HA HR q0 q1 q2 q3 HH
    go_wp2_with fail
    go_ret
    exact ⟨rfl, HB.out.2.1⟩
  cases hm : mayB s0
  · rw [hm] at hM0
    have HM0 := fun W vl hx => Lib.hid (hM0 W vl hx)
    clear hM0 hm hc300 hv e0
    obtain ⟨ki, L, b, t⟩ := s0
    simp only at *
    subst hsl
    go_enter Try.func10, Try.ntmps10
    go_wp2_with fail
    refine (awake04 _).mono ?_
    rintro e wa ⟨rfl, hBa⟩
    have hq := HH.out.below hBa
    obtain ⟨aq, cq, ⟨q0, q1, q2, q3⟩, _, hqlt, hqh⟩ := hq.open
    have HA := Lib.hid hq
    have HR := Lib.hid hqh.1
    clear hq hqh hBa
    go_wp2_with fail
    refine (HS0 _ _ HR.out).out.mono ?_
    rintro e wb ⟨rfl, hBb⟩
    have hq := HA.out.below hBb
    obtain ⟨ar, cr, ⟨r0, r1, r2, r3⟩, _, hrlt, hrh⟩ := hq.open
    have HB := Lib.hid hq
    have HRb := Lib.hid hrh.1
    clear hq hrh hBb HA HR q0 q1 q2 q3 HH
    go_wp2_with fail
    refine (HM0 _ _ HRb.out).out.mono ?_
    rintro e wm ⟨rfl, hBm⟩
    have HB := Lib.hid (HB.out.below hBm)
    clear hBm
    go_wp2_with fail
    go_ret
    exact ⟨rfl, HB.out.2.1⟩
  · rw [hm] at hM0
    have hst := seal_step hm hsl (by omega) (by omega : en < 3)
    have hmt := (step_stays ⟨10, en, 0⟩ hm).1
    rw [hst] at hmt
    obtain ⟨ki, L, b, t⟩ := s0
    simp only at hsl hc300 hmt hst hM0 HS0 HH hm
    subst hsl
    have hS := fun W vl (hx : Rd W vl L) => o_step (w := W) (vl := vl) ⟨ki, L, false, t⟩ ⟨10, en, 0⟩ hx (by simp only; omega)
    rw [hst] at hS
    have hfo := fold_sealed (opL f len1) ⟨ki, L, true, en⟩ hmt rfl
    rw [opL_length] at hfo
    have hF := fun W vl (hx : Rd W vl L) (hv : IsOps W a1 len1 f 3) => o_fold (w := W) (vl := vl) ⟨ki, L, true, en⟩ a1 len1 cap1 f hx hc300 hv (by omega)
    rw [hfo] at hF
    have hE := fun W vl ul (hx : Rd W vl L) (hy : Rd W ul L) => o_same (w := W) (vl := vl) (ul := ul) ⟨ki, L, true, en⟩ ⟨ki, L, true, en⟩ hx hy
    have es : sameB (⟨ki, L, true, en⟩ : St) ⟨ki, L, true, en⟩ = true := by simp [sameB]
    rw [es] at hE
    have hI := fun W vl ul (hx : Rd W vl L) (hy : Rd W ul L) => ints04 (w := W) (v := vl) (u := ul) hx hy
    rw [decide_eq_true rfl] at hI
    have HM0 := fun W vl hx => Lib.hid (hM0 W vl hx)
    have HS := fun W vl hx => Lib.hid (hS W vl hx)
    have HF := fun W vl hx hv => Lib.hid (hF W vl hx hv)
    have HE := fun W vl ul hx hy => Lib.hid (hE W vl ul hx hy)
    have HI := fun W vl ul hx hy => Lib.hid (hI W vl ul hx hy)
    have HV := Lib.hid hv
    clear hM0 hS hF hE hI es hfo hst hmt hm e0 hc300 hv
    simp only at HM0 HS HF HE HI
    simp only
    go_enter Try.func10, Try.ntmps10
    go_wp2_with fail
    refine (awake04 _).mono ?_
    rintro e wa ⟨rfl, hBa⟩
    have hq := HH.out.below hBa
    obtain ⟨aq, cq, ⟨q0, q1, q2, q3⟩, _, hqlt, hqh⟩ := hq.open
    have HA := Lib.hid hq
    have HR := Lib.hid hqh.1
    clear hq hqh hBa
    go_wp2_with fail
    refine (HS0 _ _ HR.out).out.mono ?_
    rintro e wb ⟨rfl, hBb⟩
    have hq := HA.out.below hBb
    obtain ⟨ar, cr, ⟨r0, r1, r2, r3⟩, _, hrlt, hrh⟩ := hq.open
    have HB := Lib.hid hq
    have HRb := Lib.hid hrh.1
    clear hq hrh hBb HA HR q0 q1 q2 q3 HH
    go_wp2_with fail
    refine (HM0 _ _ HRb.out).out.mono ?_
    rintro e wm ⟨rfl, hBm⟩
    have hq := HB.out.below hBm
    obtain ⟨as1, cs1, ⟨s0, s1, s2, s3⟩, _, hslt, hsh⟩ := hq.open
    have HB1 := Lib.hid hq
    have HR1 := Lib.hid hsh
    clear hq hsh hBm HB HRb r0 r1 r2 r3
    go_wp2_with fail
    refine (HS _ _ HR1.out.1).out.mono ?_
    rintro e w4 ⟨v4, rfl, hrd4, hb4, hor4⟩
    obtain ⟨a4, c4, rfl, _⟩ := id hrd4
    obtain ⟨hN1, hN0, hN2⟩ := boxed_new (s := ⟨ki, L, false, t⟩) (t := ⟨ki, L, true, en⟩) HB1.out.2.1 (Below.refl _ wm) HR1.out hrd4 hb4 hor4
    have HVW := Lib.hid (HV.out.below (HB1.out.2.1.trans (hN2.mono HB1.out.2.1.size)))
    have HBN := Lib.hid hN1
    have HX := Lib.hid (HB1.out.below hN2)
    have HRN := Lib.hid (hrd4.alloc (.cells #[.int .i64 ki, .slice a4 L.length c4, .bool true, .int .i64 en] 24))
    have hlt4 : w.heap.size < w4.heap.size := by omega
    clear hN1 hN2 hrd4 hb4 hor4 HV s0 s1 s2 s3
    go_wp2_with fail
    refine (HF _ _ HRN.out HVW.out).out.mono ?_
    rintro e w5 ⟨vu, vo, rfl, hrdu, hrdo, hb5⟩
    obtain ⟨au, cu, rfl, _⟩ := id hrdu
    obtain ⟨n, ao, co, g, rfl, hn, hnc, hcm, hg, hgv⟩ := hrdo.view
    rw [List.length_replicate] at hn
    subst hn
    have hw5 : Below w5.heap.size w5 (w5.alloc (.cells #[.int .i64 ki, .slice au L.length cu, .bool true, .int .i64 en] 24)) := (Below.refl _ _).alloc (Nat.le_refl _) _
    have b1 := (HX.out.below hb5).below hw5
    have b2 := (HBN.out.below hb5).below hw5
    have b3 := HBN.out.below hb5
    obtain ⟨aB, cB, ⟨r0, r1, r2, r3⟩, _, hBl, hBr⟩ := (HX.out.below hb5).open
    obtain ⟨aN, cN, ⟨m0, m1, m2, m3⟩, _, hNl, hNr⟩ := (HBN.out.below hb5).open
    have HX6 := Lib.hid b1
    have HY6 := Lib.hid b2
    have HRB := Lib.hid (hBr.1.below hw5 (Nat.le_refl _))
    have HRN6 := Lib.hid (hNr.1.below hw5 (Nat.le_refl _))
    have HRU := Lib.hid (hrdu.below hw5 (Nat.le_refl _))
    have HG := Lib.hid hgv
    have HGV : Hid (∀ i, i < n → g i = -1125899906842624) := fun i hi => by rw [hg]; simp [List.getD_eq_getElem?_getD, List.getElem?_replicate, hi]
    clear b1 b2 b3 hBr hNr hrdu hrdo hgv hg hb5 hw5 HX HBN HRN HVW
    go_wp2_with fail
    go_loopw [13] (fun i wr => ∃ k : Nat, k ≤ n ∧ i = .int .i64 k ∧ wr = w5.alloc (.cells #[.int .i64 ki, .slice au L.length cu, .bool true, .int .i64 en] 24)) (fun i _ => n - (intOf i).toNat)
    case atStart => exact ⟨0, Nat.zero_le _, rfl, rfl⟩
    case round =>
      obtain ⟨k, hk, rfl, rfl⟩ := hrel
      by_cases hkl : k < n
      · obtain ⟨bb, o, rfl, hb, hc⟩ := HG.out (by omega)
        have hc0 := hc k hkl
        rw [HGV.out k hkl] at hc0
        clear hc
        go_wp2_with fail
        go_roundw
        case rel => exact ⟨k + 1, by omega, by go_num, (by first | trivial | rfl)⟩
        case measure => simp [intOf]; omega
      · obtain rfl : k = n := by omega
        go_wp2_with fail
        refine (HI _ _ _ HRN6.out HRB.out).out.mono ?_
        rintro e w7 ⟨rfl, hb7⟩
        obtain ⟨aN7, cN7, ⟨x0, x1, x2, x3⟩, _, hxl, hxr⟩ := (HY6.out.below hb7).open
        have bu := (Blk.new w5 #[.int .i64 ki, .slice au L.length cu, .bool true, .int .i64 en] 24).below hb7 (by simp)
        have y0 := bu.cell 0
        have y1 := bu.cell 1
        have y2 := bu.cell 2
        have y3 := bu.cell 3
        simp at y0 y1 y2 y3
        have hul : w5.heap.size < w7.heap.size := bu.lt
        have HXR := Lib.hid hxr.1
        have HUR := Lib.hid (HRU.out.below hb7 (Nat.le_refl _))
        have HZ := Lib.hid (HX6.out.below hb7)
        have e1 : (en == en) = true := by simp
        have e2 : ((k : Int) == k) = true := by simp
        clear hxr bu hb7
        go_wp2_with fail
        refine (HE _ _ _ HXR.out HUR.out).out.mono ?_
        rintro e w8 ⟨rfl, hb8⟩
        have HZ8 := Lib.hid (HZ.out.below hb8)
        clear hb8
        go_wp2_with fail
        go_ret
        exact ⟨rfl, HZ8.out.2.1⟩
end Go.Proofs.Ytaoagaokocnehaa
