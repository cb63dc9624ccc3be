/-
  Layer 4: ObjsOrder returns true, whatever the numbers.
-/
import Derived.Test.YtaoagaokocnehaaHeld2
import Derived.Test.YtaoagaokocnehaaIn
import Derived.Test.YtaoagaokocnehaaOrdP
import Derived.Deep.DeepCutAuto
namespace Go.Proofs.Ytaoagaokocnehaa
set_option linter.unusedVariables false
set_option linter.unusedSimpArgs false
open Go.RowKit

def OrdRel (w : World) (Bq Bs : Nat) (L : List Int) (k : Nat) (wr : World) : Prop :=
  Wi (L.take k) ∧ Boxed w wr Bq ⟨2, L.take k, false, 0⟩ ∧ Boxed w wr Bs ⟨3, L.take k, false, 0⟩
def OrdRel2 (w : World) (Bq Bs : Nat) (L : List Int) (k : Nat) (wr : World) : Prop :=
  Boxed w wr Bq ⟨2, L.drop k, false, 0⟩ ∧ Boxed w wr Bs ⟨3, L.take (L.length - k), false, 0⟩

set_option maxRecDepth 100000 in
set_option maxHeartbeats 6400000 in
theorem order_walk (a0 : Option Addr) (len0 cap0 : Nat) (z0 : List Int) (w : World) (w0 : IsRow .i64 w a0 len0 cap0 z0) :
    Calls Try.prog 4 #[.slice a0 len0 cap0] w (Tells w true) := by
  obtain ⟨n, a, c, f, e0, hn, hnc, hcm, hf, hv⟩ := w0.rd.view
  simp only [Value.slice.injEq] at e0
  obtain ⟨rfl, rfl, rfl⟩ := e0
  generalize z0.take len0 = L at *
  clear w0
  by_cases hlen : len0 ≤ 64
  · have hlen' : ¬ 64 < (len0 : Int) := by omega
    have HN := Lib.hid hn
    have HF := Lib.hid hf
    clear hn hf
    go_enter Try.func4, Try.ntmps4
    go_wp2_with fail
    refine (awake04 w).mono ?_
    rintro e wa ⟨rfl, hBa⟩
    have HA := Lib.hid hBa
    clear hBa
    go_wp2_with fail
    refine (o_start (w := wa) 2).mono ?_
    rintro e w2 ⟨v2, rfl, hrd2, hb2, hown2⟩
    obtain ⟨a2, c2, rfl, _⟩ := id hrd2
    have hb := HA.out.trans (hb2.mono HA.out.size)
    have hq2 : Held w w2 (.slice a2 0 c2) [] := ⟨hrd2, .inr hown2⟩
    have hq : Boxed w (w2.alloc (.cells #[.int .i64 2, .slice a2 0 c2, .bool false, .int .i64 0] 24)) w2.heap.size ⟨2, [], false, 0⟩ :=
      ⟨hb.size, hb.alloc hb.size _, _, Blk.new _ _ _, hq2.below ((Below.refl _ _).alloc (Nat.le_refl _) _)⟩
    have HQ := Lib.hid hq
    clear hrd2 hb2 hown2 hb hq2 hq
    go_wp2_with fail
    refine (o_start (w := w2.alloc (.cells #[.int .i64 2, .slice a2 0 c2, .bool false, .int .i64 0] 24)) 3).mono ?_
    rintro e w3 ⟨v3, rfl, hrd3, hb3, hown3⟩
    obtain ⟨a3, c3, rfl, _⟩ := id hrd3
    have hq3 := HQ.out.below hb3
    have hw3 := hq3.2.1
    have hs3 : Held w w3 (.slice a3 0 c3) [] := ⟨hrd3, .inr hown3⟩
    have hs : Boxed w (w3.alloc (.cells #[.int .i64 3, .slice a3 0 c3, .bool false, .int .i64 0] 24)) w3.heap.size ⟨3, [], false, 0⟩ :=
      ⟨hw3.size, hw3.alloc hw3.size _, _, Blk.new _ _ _, hs3.below ((Below.refl _ _).alloc (Nat.le_refl _) _)⟩
    have hR : OrdRel w w2.heap.size w3.heap.size L 0 (w3.alloc (.cells #[.int .i64 3, .slice a3 0 c3, .bool false, .int .i64 0] 24)) :=
      ⟨by intro x hx; simp at hx, hq3.below ((Below.refl _ _).alloc (Nat.le_refl _) _), hs⟩
    have hne : w2.heap.size ≠ w3.heap.size := by have := hb3.size; simp at this; omega
    have HR := Lib.hid hR
    have HV := Lib.hid hv
    clear hrd3 hb3 hown3 hq3 hw3 hs3 hs hR hv
    go_wp2_with fail
    go_loopw [6] (fun i wr => ∃ k : Nat, k ≤ len0 ∧ i = .int .i64 k ∧ OrdRel w w2.heap.size w3.heap.size L k wr) (fun i _ => len0 - (intOf i).toNat)
    case atStart => exact ⟨0, Nat.zero_le _, rfl, HR.out⟩
    case round =>
      obtain ⟨k, hk, rfl, hR'⟩ := hrel
      clear HR
      obtain ⟨hwi, hq, hs⟩ := hR'
      by_cases hkl : k < len0
      · obtain ⟨b, o, rfl, hb, hcells⟩ := HV.out (by omega)
        have hc := hcells k hkl
        rw [← hq.2.1.cell (p := ⟨b, o + k, none⟩) hb] at hc
        have hbw : b < wr.heap.size := Nat.lt_of_lt_of_le hb hq.2.1.size
        have hfk : f k = L.getD k 0 := HF.out k
        by_cases h1 : -1099511627776 ≤ f k ∧ f k ≤ 1099511627776
        · have hlk : (L.take k).length = k := by rw [List.length_take, ← HN.out]; omega
          have hSq := fun W vl (hx : Rd W vl (L.take k)) => o_step (w := W) (vl := vl) ⟨2, L.take k, false, 0⟩ ⟨3, f k, 0⟩ hx (by simp only [hlk]; omega)
          have hSs := fun W vl (hx : Rd W vl (L.take k)) => o_step (w := W) (vl := vl) ⟨3, L.take k, false, 0⟩ ⟨3, f k, 0⟩ hx (by simp only [hlk]; omega)
          rw [step_push (.inl rfl) (by omega) hwi h1, hlk] at hSq
          rw [step_push (.inr rfl) (by omega) hwi h1, hlk] at hSs
          have HSq := fun W vl hx => Lib.hid (hSq W vl hx)
          have HSs := fun W vl hx => Lib.hid (hSs W vl hx)
          obtain ⟨aq, cq, ⟨q0, q1, q2, q3⟩, ⟨qf0, qf1, qf2, qf3⟩, hqlt, hqh⟩ := hq.open
          obtain ⟨at3, ct3, ⟨t0, t1, t2, t3⟩, ⟨tf0, tf1, tf2, tf3⟩, hslt, hsh⟩ := hs.open
          simp only [hlk] at q0 q1 q2 q3 t0 t1 t2 t3 hqh hsh
          have g1 : ¬ 1099511627776 < f k := by omega
          have g2 : ¬ f k < -1099511627776 := by omega
          have HB := Lib.hid hq
          have HBs := Lib.hid hs
          have HQH := Lib.hid hqh
          have HSH := Lib.hid hsh
          have HW := Lib.hid hwi
          have HFK := Lib.hid hfk
          have HLK := Lib.hid hlk
          obtain ⟨s1, s2⟩ := h1
          clear hSq hSs hq hs hqh hsh hwi hfk hlk hcells
          generalize f k = fk at *
          obtain ⟨l2, hl2⟩ : ∃ l2, L.take k ++ [fk] = l2 := ⟨_, rfl⟩
          rw [hl2] at HSq HSs
          have HL2 := Lib.hid hl2
          clear hl2
          go_upto_region 11 with fail
          go_cut [7, 8] (fun s7 s8 wx => ∃ N : Nat, s7 = .pointer (some ⟨N, 0, none⟩) ∧ s8 = .int .i64 ((k : Int) + 1) ∧ wr.heap.size ≤ N ∧ Boxed w wx N ⟨2, l2, false, 0⟩ ∧ Below wr.heap.size wr wx)
          case first =>
            go_region_with (first
              | (go_at_call 13; refine (HSq _ _ HQH.out.1.drew).out.mono ?_; rintro e w4 ⟨v4, rfl, hrd4, hb4, hor4⟩; obtain ⟨a4, c4, rfl, _⟩ := id hrd4; have HN4 := Lib.hid (boxed_new (s := ⟨2, L.take k, false, 0⟩) (t := ⟨2, l2, false, 0⟩) HB.out.2.1 (Below.refl _ wr).drew HQH.out hrd4 hb4 hor4); clear hrd4 hb4 hor4)
              | (go_at_call 13; refine (HSq _ _ (HQH.out.1.alloc _).drew).out.mono ?_; rintro e w4 ⟨v4, rfl, hrd4, hb4, hor4⟩; obtain ⟨a4, c4, rfl, _⟩ := id hrd4; have zb := (Blk.new wr #[.int .i64 0, .slice none 0 0, .bool false, .int .i64 0] 24).drew.below hb4 (by simp); have z0 : w4.cell? ⟨wr.heap.size, 0, none⟩ = some (.int .i64 0) := zb.cell 0; have z1 : w4.cell? ⟨wr.heap.size, 1, none⟩ = some (.slice none 0 0) := zb.cell 1; have z2 : w4.cell? ⟨wr.heap.size, 2, none⟩ = some (.bool false) := zb.cell 2; have z3 : w4.cell? ⟨wr.heap.size, 3, none⟩ = some (.int .i64 0) := zb.cell 3; have zf0 : w4.frozen? ⟨wr.heap.size, 0, none⟩ = false := zb.frozen 0; have zf1 : w4.frozen? ⟨wr.heap.size, 1, none⟩ = false := zb.frozen 1; have zf2 : w4.frozen? ⟨wr.heap.size, 2, none⟩ = false := zb.frozen 2; have zf3 : w4.frozen? ⟨wr.heap.size, 3, none⟩ = false := zb.frozen 3; have HN4 := Lib.hid (boxed_new' (s := ⟨2, L.take k, false, 0⟩) (t := ⟨2, l2, false, 0⟩) HB.out.2.1 ((Below.refl _ wr).alloc (Nat.le_refl _) _).drew HQH.out hrd4 hb4 hor4 zb (Nat.le_refl _)); clear hrd4 hb4 hor4 zb))
            all_goals
              go_wp2_with fail
              go_meet
              exact ⟨_, rfl, by go_num, HN4.out.2.1, HN4.out.1, HN4.out.2.2⟩
          case rest =>
            obtain ⟨N, rfl, rfl, hN0, hN1, hN2⟩ := hcut
            have hs' := HBs.out.below hN2
            obtain ⟨at5, ct5, ⟨u0, u1, u2, u3⟩, ⟨uf0, uf1, uf2, uf3⟩, hslt5, hsh5⟩ := hs'.open
            simp only [HLK.out] at u0 u1 u2 u3 hsh5
            have HSH5 := Lib.hid hsh5
            have hc5 := (hN2.cell (p := ⟨b, o + k, none⟩) hbw).trans hc
            have hbw5 : b < wc.heap.size := Nat.lt_of_lt_of_le hbw hN2.size
            have HBs5 := Lib.hid hs'
            have HN1 := Lib.hid hN1
            have HN2 := Lib.hid hN2
            clear hs' hsh5 hN1 hN2
            go_upto_region 12 with fail
            go_cut [9, 10] (fun s9 s10 wy => ∃ M : Nat, s9 = .pointer (some ⟨M, 0, none⟩) ∧ s10 = .int .i64 ((k : Int) + 1) ∧ wc.heap.size ≤ M ∧ Boxed w wy M ⟨3, l2, false, 0⟩ ∧ Below wc.heap.size wc wy)
            case first =>
              go_region_with (first
                | (go_at_call 13; refine (HSs _ _ HSH5.out.1.drew).out.mono ?_; rintro e w4 ⟨v4, rfl, hrd4, hb4, hor4⟩; obtain ⟨a4, c4, rfl, _⟩ := id hrd4; have HN4 := Lib.hid (boxed_new (s := ⟨3, L.take k, false, 0⟩) (t := ⟨3, l2, false, 0⟩) HBs5.out.2.1 (Below.refl _ wc).drew HSH5.out hrd4 hb4 hor4); clear hrd4 hb4 hor4)
                | (go_at_call 13; refine (HSs _ _ (HSH5.out.1.alloc _).drew).out.mono ?_; rintro e w4 ⟨v4, rfl, hrd4, hb4, hor4⟩; obtain ⟨a4, c4, rfl, _⟩ := id hrd4; have zb := (Blk.new wc #[.int .i64 0, .slice none 0 0, .bool false, .int .i64 0] 24).drew.below hb4 (by simp); have z0 : w4.cell? ⟨wc.heap.size, 0, none⟩ = some (.int .i64 0) := zb.cell 0; have z1 : w4.cell? ⟨wc.heap.size, 1, none⟩ = some (.slice none 0 0) := zb.cell 1; have z2 : w4.cell? ⟨wc.heap.size, 2, none⟩ = some (.bool false) := zb.cell 2; have z3 : w4.cell? ⟨wc.heap.size, 3, none⟩ = some (.int .i64 0) := zb.cell 3; have zf0 : w4.frozen? ⟨wc.heap.size, 0, none⟩ = false := zb.frozen 0; have zf1 : w4.frozen? ⟨wc.heap.size, 1, none⟩ = false := zb.frozen 1; have zf2 : w4.frozen? ⟨wc.heap.size, 2, none⟩ = false := zb.frozen 2; have zf3 : w4.frozen? ⟨wc.heap.size, 3, none⟩ = false := zb.frozen 3; have HN4 := Lib.hid (boxed_new' (s := ⟨3, L.take k, false, 0⟩) (t := ⟨3, l2, false, 0⟩) HBs5.out.2.1 ((Below.refl _ wc).alloc (Nat.le_refl _) _).drew HSH5.out hrd4 hb4 hor4 zb (Nat.le_refl _)); clear hrd4 hb4 hor4 zb))
              all_goals
                go_wp2_with fail
                go_meet
                exact ⟨_, rfl, by go_num, HN4.out.2.1, HN4.out.1, HN4.out.2.2⟩
            case rest =>
              obtain ⟨M, rfl, rfl, hM0, hM1, hM2⟩ := hcut
              have b1 := (HB.out.below HN2.out).below hM2
              have b2 := HBs5.out.below hM2
              have b3 := HN1.out.below hM2
              have hw1 := HB.out.2.1.trans (HN2.out.mono HB.out.2.1.size)
              have hw2 := hw1.trans (hM2.mono hw1.size)
              have hwc := HN2.out.size
              obtain ⟨aq6, cq6, ⟨q0, q1, q2, q3⟩, ⟨qf0, qf1, qf2, qf3⟩, ql6, _⟩ := b1.open
              obtain ⟨as6, cs6, ⟨p0, p1, p2, p3⟩, ⟨pf0, pf1, pf2, pf3⟩, pl6, _⟩ := b2.open
              obtain ⟨aN, cN, ⟨n0, n1, n2, n3⟩, ⟨nf0, nf1, nf2, nf3⟩, nl6, _⟩ := b3.open
              obtain ⟨aM, cM, ⟨m0, m1, m2, m3⟩, ⟨mf0, mf1, mf2, mf3⟩, ml6, _⟩ := hM1.open
              have e1 : N ≠ w2.heap.size := by omega
              have e2 : N ≠ w3.heap.size := by omega
              have e3 : M ≠ w2.heap.size := by omega
              have e4 : M ≠ w3.heap.size := by omega
              have HH := Lib.hid (Boxed.assign2 b1 b2 b3 hM1 n1 m1 hne e3)
              have kk : ((k : Int) + 1 != (k : Int) + 1) = false := by simp
              simp only [HLK.out] at q0 q1 q2 q3 p0 p1 p2 p3
              clear b1 b2 b3 hM1 hM2 hw1 hw2
              go_wp2_with fail
              go_roundw
              case rel =>
                have el : L.take (k + 1) = l2 := by rw [take_succ_getD _ _ (by rw [← HN.out]; exact hkl), ← HFK.out, HL2.out]
                refine ⟨k + 1, by omega, by go_num, ?_⟩
                unfold OrdRel
                rw [el]
                exact ⟨by rw [← HL2.out]; exact HW.out.snoc ⟨s1, s2⟩, HH.out.1, HH.out.2⟩
              case measure => simp [intOf]; omega
        · have h2 : 1099511627776 < f k ∨ (¬ 1099511627776 < f k ∧ f k < -1099511627776) := by omega
          have HL := Lib.hid hq.2.1
          clear h1 hcells hq hs hfk
          rcases h2 with h2 | ⟨h2, h3⟩
          all_goals
            go_wp2_with fail
            go_ret
            exact ⟨rfl, HL.out⟩
      · obtain rfl : k = len0 := by omega
        have eT : L.take k = L := by rw [HN.out, List.take_length]
        have hR2 : OrdRel2 w w2.heap.size w3.heap.size L 0 wr := by
          unfold OrdRel2
          rw [List.drop_zero, Nat.sub_zero, List.take_length]
          rw [eT] at hq hs
          exact ⟨hq, hs⟩
        rw [eT] at hwi
        have HR2 := Lib.hid hR2
        have HW := Lib.hid hwi
        clear hq hs hR2 hwi eT
        go_wp2_with fail
        go_loopw [11] (fun i wr => ∃ j : Nat, j ≤ k ∧ i = .int .i64 j ∧ OrdRel2 w w2.heap.size w3.heap.size L j wr) (fun i _ => k - (intOf i).toNat)
        case atStart => exact ⟨0, Nat.zero_le _, rfl, HR2.out⟩
        case round =>
          obtain ⟨j, hj, rfl, hq, hs⟩ := hrel
          clear HR2
          by_cases hjl : j < k
          · obtain ⟨b, o, rfl, hb, hcells⟩ := HV.out (by omega)
            have hc := hcells j hjl
            obtain ⟨m, hm⟩ : ∃ m, k = j + 1 + m := ⟨k - (j + 1), by omega⟩
            have hd := hcells m (by omega)
            rw [← hq.2.1.cell (p := ⟨b, o + j, none⟩) hb] at hc
            rw [← hq.2.1.cell (p := ⟨b, o + m, none⟩) hb] at hd
            have hbw : b < wr.heap.size := Nat.lt_of_lt_of_le hb hq.2.1.size
            have hl : L.length = k := HN.out.symm
            have hw64 : k ≤ 64 := hlen
            have hqv : (L.drop j).getD 0 0 = f j := by rw [getD_drop, HF.out]; rfl
            have hsv : (L.take (L.length - j)).getD ((L.take (L.length - j)).length - 1) 0 = f m := by
              have e : (L.take (L.length - j)).length - 1 = m := by rw [List.length_take]; omega
              rw [e, getD_take _ _ _ (by omega), HF.out]
            have hq1 : (L.drop j).drop 1 = L.drop (j + 1) := by rw [List.drop_drop]
            have hs1 : (L.take (L.length - j)).take ((L.take (L.length - j)).length - 1) = L.take (L.length - (j + 1)) := by
              rw [List.take_take, List.length_take]
              congr 1
              omega
            have hSq := fun W vl (hx : Rd W vl (L.drop j)) => o_step (w := W) (vl := vl) ⟨2, L.drop j, false, 0⟩ ⟨4, 0, 0⟩ hx (by simp; omega)
            have hSs := fun W vl (hx : Rd W vl (L.take (L.length - j))) => o_step (w := W) (vl := vl) ⟨3, L.take (L.length - j), false, 0⟩ ⟨4, 0, 0⟩ hx (by simp; omega)
            rw [step_popq (by simp; omega) (by simp; omega) (HW.out.drop _), hq1, hqv] at hSq
            rw [step_pops (by simp; omega) (by simp; omega) (HW.out.take _), hs1, hsv] at hSs
            have HSq := fun W vl hx => Lib.hid (hSq W vl hx)
            have HSs := fun W vl hx => Lib.hid (hSs W vl hx)
            clear hSq hSs hqv hsv hq1 hs1 hcells hl
            obtain ⟨Q0, hQ0⟩ : ∃ l, L.drop j = l := ⟨_, rfl⟩
            obtain ⟨Q1, hQ1⟩ : ∃ l, L.drop (j + 1) = l := ⟨_, rfl⟩
            obtain ⟨T0, hT0⟩ : ∃ l, L.take (L.length - j) = l := ⟨_, rfl⟩
            obtain ⟨T1, hT1⟩ : ∃ l, L.take (L.length - (j + 1)) = l := ⟨_, rfl⟩
            rw [hQ0] at hq HSq
            rw [hT0] at hs HSs
            rw [hQ1] at HSq
            rw [hT1] at HSs
            have HT1 := Lib.hid hT1
            have HQ1 := Lib.hid hQ1
            have hidx : (k : Int) - 1 - (j : Int) = (m : Int) := by omega
            have hjm : j + m < k := by omega
            clear hQ0 hQ1 hT0 hT1 hm
            generalize f j = fj at *
            generalize f m = fm at *
            obtain ⟨aq, cq, ⟨q0, q1, q2, q3⟩, ⟨qf0, qf1, qf2, qf3⟩, hqlt, hqh⟩ := hq.open
            have HB := Lib.hid hq
            have HBs := Lib.hid hs
            have HQH := Lib.hid hqh
            obtain ⟨_, _, _, _, hsl0, _⟩ := hs.open
            clear hq hs hqh
            go_wp2_with fail
            refine (HSq _ _ HQH.out.1).out.mono ?_
            rintro e w4 ⟨v4, rfl, hrd4, hb4, hor4⟩
            obtain ⟨a4, c4, rfl, _⟩ := id hrd4
            have hn4 := boxed_new (s := ⟨2, Q0, false, 0⟩) (t := ⟨2, Q1, false, 0⟩) HB.out.2.1 (Below.refl _ wr) HQH.out hrd4 hb4 hor4
            obtain ⟨hN1, hN0, hN2⟩ := hn4
            have hs' := HBs.out.below hN2
            obtain ⟨at5, ct5, ⟨u0, u1, u2, u3⟩, ⟨uf0, uf1, uf2, uf3⟩, hslt5, hsh5⟩ := hs'.open
            have hc5 := (hN2.cell (p := ⟨b, o + j, none⟩) hbw).trans hc
            have hd5 := (hN2.cell (p := ⟨b, o + m, none⟩) hbw).trans hd
            have hbw5 := Nat.lt_of_lt_of_le hbw hN2.size
            have HSH5 := Lib.hid hsh5
            have HBs5 := Lib.hid hs'
            have HN1 := Lib.hid hN1
            have HN2 := Lib.hid hN2
            clear hs' hsh5 hN1 hN2 hrd4 hb4 hor4
            go_wp2_with fail
            refine (HSs _ _ HSH5.out.1).out.mono ?_
            rintro e w5 ⟨v5, rfl, hrd5, hb5, hor5⟩
            obtain ⟨a5, c5, rfl, _⟩ := id hrd5
            have hn5 := boxed_new (s := ⟨3, T0, false, 0⟩) (t := ⟨3, T1, false, 0⟩) HBs5.out.2.1 (Below.refl _ _) HSH5.out hrd5 hb5 hor5
            obtain ⟨hM1, hM0, hM2⟩ := hn5
            have b1 := (HB.out.below HN2.out).below hM2
            have b2 := HBs5.out.below hM2
            have b3 := HN1.out.below hM2
            obtain ⟨aq6, cq6, ⟨q0, q1, q2, q3⟩, ⟨qf0, qf1, qf2, qf3⟩, ql6, _⟩ := b1.open
            obtain ⟨as6, cs6, ⟨p0, p1, p2, p3⟩, ⟨pf0, pf1, pf2, pf3⟩, pl6, _⟩ := b2.open
            obtain ⟨aN, cN, ⟨n0, n1, n2, n3⟩, ⟨nf0, nf1, nf2, nf3⟩, nl6, _⟩ := b3.open
            obtain ⟨aM, cM, ⟨m0, m1, m2, m3⟩, ⟨mf0, mf1, mf2, mf3⟩, ml6, _⟩ := hM1.open
            have hc6 := (hM2.cell (p := ⟨b, o + j, none⟩) hbw5).trans hc5
            have hd6 := (hM2.cell (p := ⟨b, o + m, none⟩) hbw5).trans hd5
            have hbw6 := Nat.lt_of_lt_of_le hbw5 hM2.size
            have e1 : w4.heap.size ≠ w2.heap.size := by omega
            have e2 : w4.heap.size ≠ w3.heap.size := by omega
            have e3 : w5.heap.size ≠ w2.heap.size := by have := HN2.out.size; omega
            have e4 : w5.heap.size ≠ w3.heap.size := by omega
            have HH := Lib.hid (Boxed.assign2 b1 b2 b3 hM1 n1 m1 hne e3)
            clear b1 b2 b3 hM1 hM2 hrd5 hb5 hor5
            have kk : (fj != fj) = false := by simp
            have kk2 : (fm != fm) = false := by simp
            go_wp2_with fail
            go_roundw
            case rel =>
              refine ⟨j + 1, by omega, by go_num, ?_⟩
              unfold OrdRel2
              rw [HQ1.out, HT1.out]
              exact HH.out
            case measure => simp [intOf]; omega
          · have ejk : j = k := by omega
            subst ejk
            have hl : L.length = j := HN.out.symm
            rw [show L.drop j = [] by rw [← hl, List.drop_length]] at hq
            rw [hl, Nat.sub_self, List.take_zero] at hs
            obtain ⟨aq, cq, ⟨q0, q1, q2, q3⟩, _, hqlt, _⟩ := hq.open
            obtain ⟨ap, cp, ⟨p0, p1, p2, p3⟩, _, hslt, _⟩ := hs.open
            have HL := Lib.hid hq.2.1
            clear hq hs hl
            go_wp2_with fail
            go_ret
            exact ⟨rfl, HL.out⟩
  · have hlen' : 64 < (len0 : Int) := by omega
    clear hv hn hf
    go_enter Try.func4, Try.ntmps4
    go_wp2_with fail
    refine (awake04 w).mono ?_
    rintro e wa ⟨rfl, hBa⟩
    have HA := Lib.hid hBa
    clear hBa
    go_wp2_with fail
    go_ret
    exact ⟨rfl, HA.out⟩
end Go.Proofs.Ytaoagaokocnehaa
