/-
  Layer 4: ObjsSums returns true, whatever the numbers.
-/
import Derived.Test.YtaoagaokocnehaaHeld
import Derived.Test.YtaoagaokocnehaaIn
namespace Go.Proofs.Ytaoagaokocnehaa
set_option linter.unusedVariables false
set_option linter.unusedSimpArgs false
open Go.RowKit

def sumTo (f : Nat → Int) : Nat → Int
  | 0 => 0
  | k + 1 => sumTo f k + f k
theorem sumTo_range (f : Nat → Int) (k : Nat) (h : ∀ i, i < k → -1073741824 ≤ f i ∧ f i ≤ 1073741824) : -(1073741824 * (k : Int)) ≤ sumTo f k ∧ sumTo f k ≤ 1073741824 * (k : Int) := by
  induction k with
  | zero => simp [sumTo]
  | succ k ih =>
    have := ih fun i hi => h i (by omega)
    have := h k (by omega)
    simp only [sumTo]
    omega
theorem step_add (n x : Int) (hn : -107374182400 ≤ n ∧ n ≤ 107374182400) (hx : -1073741824 ≤ x ∧ x ≤ 1073741824) : stepS ⟨0, [n], false, 0⟩ ⟨1, x, 0⟩ = (⟨0, [n + x], false, 0⟩, n) := by
  have c : ∀ y : Int, -1099511627776 ≤ y → y ≤ 1099511627776 → cutI y = y := by intro y h1 h2; unfold cutI; rw [if_neg (by omega), if_neg (by omega)]
  have hm : mayB ⟨0, [n], false, 0⟩ = true := by simp [mayB, withinB, c n (by omega) (by omega)]
  simp [stepS, hm, numberS, c x (by omega) (by omega), c (n + x) (by omega) (by omega)]
theorem step_get (n : Int) (hn : -107374182400 ≤ n ∧ n ≤ 107374182400) : stepS ⟨0, [n], false, 0⟩ ⟨7, 0, 0⟩ = (⟨0, [n], false, 0⟩, n) := by
  have c : ∀ y : Int, -1099511627776 ≤ y → y ≤ 1099511627776 → cutI y = y := by intro y h1 h2; unfold cutI; rw [if_neg (by omega), if_neg (by omega)]
  have hm : mayB ⟨0, [n], false, 0⟩ = true := by simp [mayB, withinB, c n (by omega) (by omega)]
  simp [stepS, hm, numberS]

def SumRel (w : World) (B : Nat) (f : Nat → Int) (k : Nat) (wr : World) : Prop := (∀ i, i < k → -1073741824 ≤ f i ∧ f i ≤ 1073741824) ∧ Boxed w wr B ⟨0, [sumTo f k], false, 0⟩

set_option maxRecDepth 100000 in
set_option maxHeartbeats 3200000 in
theorem sums_walk (a0 : Option Addr) (len0 cap0 : Nat) (z0 : List Int) (w : World) (w0 : IsRow .i64 w a0 len0 cap0 z0) :
    Calls Try.prog 5 #[.slice a0 len0 cap0] w (Tells w true) := by
  obtain ⟨n, a, c, f, e0, hn, hnc, hcm, hf, hv⟩ := w0.rd.view
  simp only [Value.slice.injEq] at e0
  obtain ⟨rfl, rfl, rfl⟩ := e0
  clear w0 hf hn
  by_cases hlen : len0 ≤ 100
  · have hlen' : ¬ 100 < (len0 : Int) := by omega
    go_enter Try.func5, Try.ntmps5
    go_wp2_with fail
    refine (awake04 w).mono ?_
    rintro e wa ⟨rfl, hBa⟩
    have HA := Lib.hid hBa
    clear hBa
    go_wp2_with fail
    refine (o_start (w := wa) 0).mono ?_
    rintro e w2 ⟨v2, rfl, hrd2, hb2, hown2⟩
    obtain ⟨a2, c2, rfl, _⟩ := id hrd2
    have hR : SumRel w w2.heap.size f 0 (w2.alloc (.cells #[.int .i64 0, .slice a2 1 c2, .bool false, .int .i64 0] 24)) := by
      have hb := HA.out.trans (hb2.mono HA.out.size)
      exact ⟨by omega, hb.size, hb.alloc hb.size _, _, Blk.new _ _ _, Held.below (w := w) (wr := w2) (L := [0]) ⟨hrd2, .inr hown2⟩ ((Below.refl _ _).alloc (Nat.le_refl _) _)⟩
    have HR := Lib.hid hR
    have HV := Lib.hid hv
    clear hR hrd2 hb2 hown2 hv
    go_wp2_with fail
    go_loopw [5, 6] (fun m i wr => ∃ k : Nat, k ≤ len0 ∧ i = .int .i64 k ∧ m = .int .i64 (sumTo f k) ∧ SumRel w w2.heap.size f k wr) (fun _ i _ => len0 - (intOf i).toNat)
    case atStart => exact ⟨0, Nat.zero_le _, rfl, rfl, HR.out⟩
    case round =>
      obtain ⟨k, hk, rfl, rfl, hR'⟩ := hrel
      clear HR
      have HR := Lib.hid hR'
      obtain ⟨hf, hge, hbel, vl, hblk, hheld⟩ := hR'
      obtain ⟨a3, c3, rfl, _⟩ := id hheld.1
      have x0 : wr.cell? ⟨w2.heap.size, 0, none⟩ = some (.int .i64 0) := hblk.cell 0
      have x1 : wr.cell? ⟨w2.heap.size, 1, none⟩ = some (.slice a3 1 c3) := hblk.cell 1
      have x2 : wr.cell? ⟨w2.heap.size, 2, none⟩ = some (.bool false) := hblk.cell 2
      have x3 : wr.cell? ⟨w2.heap.size, 3, none⟩ = some (.int .i64 0) := hblk.cell 3
      have hlt := hblk.lt
      have hr := sumTo_range f k hf
      by_cases hkl : k < len0
      · obtain ⟨b, o, rfl, hb, hcells⟩ := HV.out (by omega)
        have hc := hcells k hkl
        rw [← hbel.cell (p := ⟨b, o + k, none⟩) hb] at hc
        have hbw : b < wr.heap.size := Nat.lt_of_lt_of_le hb hbel.size
        by_cases h1 : -1073741824 ≤ f k ∧ f k ≤ 1073741824
        · have hS := fun W (hW : Below wr.heap.size wr W) => o_step (w := W) (vl := .slice a3 1 c3) ⟨0, [sumTo f k], false, 0⟩ ⟨1, f k, 0⟩ (hheld.1.below hW (Nat.le_refl _)) (by simp)
          rw [step_add (sumTo f k) (f k) (by omega) h1] at hS
          have HS := fun W hW => Lib.hid (hS W hW)
          have g1 : ¬ 1073741824 < f k := by omega
          have g2 : ¬ f k < -1073741824 := by omega
          have hf1 : ∀ i, i < k + 1 → -1073741824 ≤ f i ∧ f i ≤ 1073741824 := by
            intro i hi
            by_cases e : i = k
            · rw [e]; exact h1
            · exact hf i (by omega)
          have HF := Lib.hid hf1
          have HBK := Lib.hid hblk
          have HH := Lib.hid hheld
          have HL := Lib.hid hbel
          have e1 : sumTo f (k + 1) = sumTo f k + f k := rfl
          have E1 := Lib.hid e1
          obtain ⟨r1, r2⟩ := hr
          have r1' : -107374182400 ≤ sumTo f k := by omega
          have r2' : sumTo f k ≤ 107374182400 := by omega
          obtain ⟨s1, s2⟩ := h1
          clear hS hf hf1 hblk hheld hbel e1 r1 r2 hcells HR
          generalize sumTo f k = sk at *
          generalize f k = fk at *
          go_wp2_with fail
          go_region_with (first
            | (go_at_call 13; refine (HS _ (Below.refl _ _).drew).out.mono ?_; rintro e w4 ⟨v4, rfl, hrd4, hb4, hor4⟩; obtain ⟨a4, c4, rfl, _⟩ := id hrd4; have HRD := Lib.hid hrd4; have HB4 := Lib.hid hb4; have HO4 := Lib.hid hor4; clear hrd4 hb4 hor4)
            | (go_at_call 13; refine (HS _ ((Below.refl _ _).drew.alloc (Nat.le_refl _) _)).out.mono ?_; rintro e w4 ⟨v4, rfl, hrd4, hb4, hor4⟩; obtain ⟨a4, c4, rfl, _⟩ := id hrd4; have zb := (Blk.new wr.drew #[.int .i64 0, .slice none 0 0, .bool false, .int .i64 0] 24).below hb4 (by simp); have z0 : w4.cell? ⟨wr.heap.size, 0, none⟩ = some (.int .i64 0) := zb.cell 0; have z1 : w4.cell? ⟨wr.heap.size, 1, none⟩ = some (.slice none 0 0) := zb.cell 1; have z2 : w4.cell? ⟨wr.heap.size, 2, none⟩ = some (.bool false) := zb.cell 2; have z3 : w4.cell? ⟨wr.heap.size, 3, none⟩ = some (.int .i64 0) := zb.cell 3; have zf0 : w4.frozen? ⟨wr.heap.size, 0, none⟩ = false := zb.frozen 0; have zf1 : w4.frozen? ⟨wr.heap.size, 1, none⟩ = false := zb.frozen 1; have zf2 : w4.frozen? ⟨wr.heap.size, 2, none⟩ = false := zb.frozen 2; have zf3 : w4.frozen? ⟨wr.heap.size, 3, none⟩ = false := zb.frozen 3; have HRD := Lib.hid hrd4; have HB4 := Lib.hid hb4; have HO4 := Lib.hid hor4; have ZB := Lib.hid zb; clear hrd4 hb4 hor4 zb))
          all_goals
            have hb4 : Below wr.heap.size wr w4 := by
              first
                | exact ((Below.refl _ wr).drew).trans (HB4.out.mono (Nat.le_refl _))
                | exact (((Below.refl _ wr).drew).alloc (Nat.le_refl _) _).trans (HB4.out.mono (by simp))
            have yb := HBK.out.below hb4 hlt
            have y0 : w4.cell? ⟨w2.heap.size, 0, none⟩ = some (.int .i64 0) := yb.cell 0
            have y1 : w4.cell? ⟨w2.heap.size, 1, none⟩ = some (.slice a3 1 c3) := yb.cell 1
            have y2 : w4.cell? ⟨w2.heap.size, 2, none⟩ = some (.bool false) := yb.cell 2
            have y3 : w4.cell? ⟨w2.heap.size, 3, none⟩ = some (.int .i64 0) := yb.cell 3
            have yf0 : w4.frozen? ⟨w2.heap.size, 0, none⟩ = false := yb.frozen 0
            have yf1 : w4.frozen? ⟨w2.heap.size, 1, none⟩ = false := yb.frozen 1
            have yf2 : w4.frozen? ⟨w2.heap.size, 2, none⟩ = false := yb.frozen 2
            have yf3 : w4.frozen? ⟨w2.heap.size, 3, none⟩ = false := yb.frozen 3
            have hlt4 : w2.heap.size < w4.heap.size := Nat.lt_of_lt_of_le hlt hb4.size
            have hbo4 : w4.cell? ⟨b, o + k, none⟩ = some (.int .i64 fk) := (hb4.cell (p := ⟨b, o + k, none⟩) hbw).trans hc
            have hbw4 : b < w4.heap.size := Nat.lt_of_lt_of_le hbw hb4.size
            have hne : wr.heap.size ≠ w2.heap.size := by omega
            have hskk : (sk != sk) = false := by simp
            have YB := Lib.hid yb
            have HW4 := Lib.hid hb4
            clear hb4 yb
            go_wp2_with fail
            go_roundw
            case rel =>
              refine ⟨k + 1, by omega, by go_num, by rw [E1.out], HF.out, ?_⟩
              rw [E1.out]
              have hw4 := HL.out.trans (HW4.out.mono HL.out.size)
              first
                | have hh := Held.step (HH.out.below ((Below.refl _ wr).drew)) HRD.out HB4.out HO4.out
                  exact (boxed_set hge hw4 YB.out ⟨0, [sk + fk], false, 0⟩ hh).below ((Below.refl _ _).alloc (Nat.le_refl _) _)
                | have hh := Held.step (HH.out.below (((Below.refl _ wr).drew).alloc (Nat.le_refl _) _)) HRD.out HB4.out HO4.out
                  have hk4 := fun (v1 v2 v3 v4 : Value) => ((((Keeps.refl (fun k => k = wr.heap.size) w4).set wr.heap.size 0 (.inl rfl) v1).set wr.heap.size 1 (.inl rfl) v2).set wr.heap.size 2 (.inl rfl) v3).set wr.heap.size 3 (.inl rfl) v4
                  exact boxed_set hge (hw4.trans ((hk4 _ _ _ _).below (by rintro k rfl; exact HL.out.size) hw4.size)) (YB.out.keeps (hk4 _ _ _ _) (fun e => hne e.symm)) ⟨0, [sk + fk], false, 0⟩ (hh.other hw4 ZB.out HL.out.size (hk4 _ _ _ _))
            case measure => simp [intOf]; omega
        · have h2 : 1073741824 < f k ∨ (¬ 1073741824 < f k ∧ f k < -1073741824) := by omega
          have HL := Lib.hid hbel
          clear h1 hr hf hcells HR hheld hblk
          rcases h2 with h2 | ⟨h2, h3⟩
          · go_wp2_with fail
            go_ret
            exact ⟨rfl, HL.out⟩
          · go_wp2_with fail
            go_ret
            exact ⟨rfl, HL.out⟩
      · obtain rfl : k = len0 := by omega
        have hS := fun W (hW : Below wr.heap.size wr W) => o_step (w := W) (vl := .slice a3 1 c3) ⟨0, [sumTo f k], false, 0⟩ ⟨7, 0, 0⟩ (hheld.1.below hW (Nat.le_refl _)) (by simp)
        rw [step_get (sumTo f k) (by omega)] at hS
        have HS := fun W hW => Lib.hid (hS W hW)
        have HL := Lib.hid hbel
        clear hS hf hblk hheld hbel HR hr
        generalize sumTo f k = sk at *
        go_wp2_with fail
        refine (HS _ (Below.refl _ _)).out.mono ?_
        rintro e w4 ⟨v4, rfl, hrd4, hb4, hor4⟩
        obtain ⟨a4, c4, rfl, _⟩ := id hrd4
        have HB := Lib.hid (HL.out.trans (hb4.mono HL.out.size))
        clear hrd4 hb4 hor4
        go_wp2_with fail
        go_ret
        exact ⟨by simp, HB.out.alloc HB.out.size _⟩
  · have hlen' : 100 < (len0 : Int) := by omega
    clear hv
    go_enter Try.func5, Try.ntmps5
    go_wp2_with fail
    refine (awake04 w).mono ?_
    rintro e wa ⟨rfl, hBa⟩
    have HA := Lib.hid hBa
    clear hBa
    go_wp2_with fail
    go_ret
    exact ⟨rfl, HA.out⟩
end Go.Proofs.Ytaoagaokocnehaa
