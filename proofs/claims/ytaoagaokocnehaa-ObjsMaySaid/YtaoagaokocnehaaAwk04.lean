/-
  Layer 4: awake, Few, Ints.
-/
import Derived.Test.YtaoagaokocnehaaOw9
import Derived.Test.YtaoagaokocnehaaOw10
namespace Go.Proofs.Ytaoagaokocnehaa
set_option linter.unusedVariables false
set_option linter.unusedSimpArgs false
open Go.RowKit

theorem few04 {w : World} {vl : Value} (s : St) (hx : Rd w vl s.L) :
    Calls Try.prog 12 #[.agg #[.int .i64 s.kind, vl, .bool s.isSealed, .int .i64 s.to]] w (Tells w (decide (s.L.length ≤ 300))) := by
  obtain ⟨a, c, rfl, _⟩ := hx
  obtain ⟨k, L, b, t⟩ := s
  have hB : Below w.heap.size w (w.alloc (.cells #[.int .i64 k, .slice a L.length c, .bool b, .int .i64 t] 24)) := (Below.refl _ w).alloc (Nat.le_refl _) _
  have e : decide (L.length ≤ 300) = decide ((L.length : Int) ≤ 300) := by
    by_cases h : L.length ≤ 300
    · rw [decide_eq_true h, decide_eq_true (by omega)]
    · rw [decide_eq_false h, decide_eq_false (by omega)]
  simp only
  rw [e]
  have H := Lib.hid hB
  clear e hB
  go_enter Try.func12, Try.ntmps12
  go_wp2_with fail
  go_ret
  exact ⟨rfl, H.out⟩

theorem rd_lit (w : World) (l : List Int) (n : Nat) (hn : n = l.length) (hm : l.length ≤ 4) : Rd (w.alloc (.cells (ints l).toArray 3)) (.slice (some ⟨w.heap.size, 0, none⟩) n n) l := by
  subst hn
  have h := own_lit w 3 (ints l) (by simp only [ints_length, maxLen]; omega)
  rw [ints_length] at h
  exact own_rd h

theorem rd_open1 {w : World} {v : Value} {x : Int} (h : Rd w v [x]) : ∃ b o c, v = .slice (some ⟨b, o, none⟩) 1 c ∧ 1 ≤ c ∧ b < w.heap.size ∧ w.cell? ⟨b, o, none⟩ = some (.int .i64 x) := by
  obtain ⟨a, c, rfl, h1, _, h3⟩ := h
  obtain ⟨b, o, rfl, hb, hc⟩ := h3 (by simp)
  exact ⟨b, o, c, rfl, h1, hb, hc 0 (by simp)⟩

set_option maxRecDepth 100000 in
set_option maxHeartbeats 3200000 in
theorem awake04 (w : World) : Calls Try.prog 11 #[] w (Tells w true) := by
  have S1 := fun W n hx => Lib.hid (o_step (w := W) (vl := .slice (some ⟨n, 0, none⟩) 1 1) ⟨0, [5], false, 0⟩ ⟨1, 3, 0⟩ hx (by decide))
  have r1 : stepS ⟨0, [5], false, 0⟩ ⟨1, 3, 0⟩ = (⟨0, [8], false, 0⟩, 5) := by decide +kernel
  rw [r1] at S1
  have S2 := fun W n hx => Lib.hid (o_step (w := W) (vl := .slice (some ⟨n, 0, none⟩) 2 2) ⟨2, [1, 2], false, 0⟩ ⟨4, 0, 0⟩ hx (by decide))
  have r2 : stepS ⟨2, [1, 2], false, 0⟩ ⟨4, 0, 0⟩ = (⟨2, [2], false, 0⟩, 1) := by decide +kernel
  rw [r2] at S2
  have S3 := fun W n hx => Lib.hid (o_step (w := W) (vl := .slice (some ⟨n, 0, none⟩) 1 1) ⟨0, [5], true, 0⟩ ⟨0, 0, 0⟩ hx (by decide))
  have r3 : stepS ⟨0, [5], true, 0⟩ ⟨0, 0, 0⟩ = (⟨0, [5], true, 0⟩, -1125899906842624) := by decide +kernel
  rw [r3] at S3
  have S4 := fun W v hx => Lib.hid (o_may (w := W) (vl := v) (startS 5) hx (by decide))
  have r4 : mayB (startS 5) = true := by decide +kernel
  have r5 : startS 5 = ⟨5, [], false, 0⟩ := rfl
  rw [r4] at S4
  have S5 := fun W => Lib.hid (o_start (w := W) 5)
  rw [r5] at S4 S5
  clear r1 r2 r3 r4 r5
  go_enter Try.func11, Try.ntmps11
  go_wp2_with fail
  refine (S1 _ _ (rd_lit w [5] 1 rfl (by decide))).out.mono ?_
  rintro e w1 ⟨v1, rfl, hrd1, hb1, _⟩
  obtain ⟨p1, o1, c1, rfl, hc1, hp1, hx1⟩ := rd_open1 hrd1
  clear S1
  have B1 := Lib.hid (((Below.refl w.heap.size w).alloc (Nat.le_refl _) (.cells #[.int .i64 5] 3)).trans (hb1.mono (by simp)))
  have X1 := Lib.hid hx1
  have l2 := Lib.hid (rd_lit (w1.alloc (.cells #[.int .i64 0, .slice (some ⟨p1, o1, none⟩) 1 c1, .bool false, .int .i64 0] 24)) [1, 2] 2 rfl (by decide))
  clear hrd1 hb1 hx1
  go_wp2_with fail
  rw [World.size_alloc] at l2
  refine (S2 _ _ l2.out).out.mono ?_
  rintro e w2 ⟨v2, rfl, hrd2, hb2, _⟩
  obtain ⟨p2, o2, c2, rfl, hc2, hp2, hx2⟩ := rd_open1 hrd2
  clear S2
  have hs2 := hb2.size
  simp only [World.size_alloc] at hs2
  have q1 := (((Blk.new w1 #[.int .i64 0, .slice (some ⟨p1, o1, none⟩) 1 c1, .bool false, .int .i64 0] 24).alloc (.cells #[.int .i64 1, .int .i64 2] 3))).below hb2 (by simp only [World.size_alloc]; omega)
  have t1 : w2.cell? ⟨p1, o1, none⟩ = some (.int .i64 8) := (hb2.cell (p := ⟨p1, o1, none⟩) (by simp only [World.size_alloc]; omega)).trans (by rw [World.cell?_alloc_lt _ _ _ (by simp only [World.size_alloc]; omega), World.cell?_alloc_lt _ _ _ (by omega)]; exact X1.out)
  have B2 := Lib.hid (B1.out.trans ((((Below.refl w1.heap.size w1).alloc (Nat.le_refl _) (.cells #[.int .i64 0, .slice (some ⟨p1, o1, none⟩) 1 c1, .bool false, .int .i64 0] 24)).alloc (by simp only [World.size_alloc]; omega) (.cells #[.int .i64 1, .int .i64 2] 3)).trans (hb2.mono (by simp only [World.size_alloc]; omega)) |>.mono B1.out.size))
  have X2 := Lib.hid hx2
  have Q1 := Lib.hid q1
  have T1 := Lib.hid t1
  have l3 := Lib.hid (rd_lit (w2.alloc (.cells #[.int .i64 2, .slice (some ⟨p2, o2, none⟩) 1 c2, .bool false, .int .i64 0] 24)) [5] 1 rfl (by decide))
  clear hrd2 hb2 hx2 q1 t1 l2
  go_wp2_with fail
  rw [World.size_alloc] at l3
  refine (S3 _ _ l3.out).out.mono ?_
  rintro e w3 ⟨v3, rfl, hrd3, hb3, _⟩
  have hs3 := hb3.size
  simp only [World.size_alloc] at hs3
  have q1 : Blk w3 w1.heap.size _ _ := (((Q1.out.alloc _).alloc _)).below hb3 (by simp only [World.size_alloc]; omega)
  have q2 := (((Blk.new w2 #[.int .i64 2, .slice (some ⟨p2, o2, none⟩) 1 c2, .bool false, .int .i64 0] 24).alloc (.cells #[.int .i64 5] 3))).below hb3 (by simp only [World.size_alloc]; omega)
  have t1 : w3.cell? ⟨p1, o1, none⟩ = some (.int .i64 8) := (hb3.cell (p := ⟨p1, o1, none⟩) (by simp only [World.size_alloc]; omega)).trans (by rw [World.cell?_alloc_lt _ _ _ (by simp only [World.size_alloc]; omega), World.cell?_alloc_lt _ _ _ (by simp only; omega)]; exact T1.out)
  have t2 : w3.cell? ⟨p2, o2, none⟩ = some (.int .i64 2) := (hb3.cell (p := ⟨p2, o2, none⟩) (by simp only [World.size_alloc]; omega)).trans (by rw [World.cell?_alloc_lt _ _ _ (by simp only [World.size_alloc]; omega), World.cell?_alloc_lt _ _ _ (by simp only; omega)]; exact X2.out)
  have u1 : w3.cell? ⟨w1.heap.size, 1, none⟩ = some (.slice (some ⟨p1, o1, none⟩) 1 c1) := q1.cell 1
  have u2 : w3.cell? ⟨w2.heap.size, 1, none⟩ = some (.slice (some ⟨p2, o2, none⟩) 1 c2) := q2.cell 1
  have B3 := Lib.hid (B2.out.trans ((((Below.refl w2.heap.size w2).alloc (Nat.le_refl _) (.cells #[.int .i64 2, .slice (some ⟨p2, o2, none⟩) 1 c2, .bool false, .int .i64 0] 24)).alloc (by simp only [World.size_alloc]; omega) (.cells #[.int .i64 5] 3)).trans (hb3.mono (by simp only [World.size_alloc]; omega)) |>.mono B2.out.size))
  have k1 : p1 < w3.heap.size := by omega
  have k2 : p2 < w3.heap.size := by omega
  have k3 : w1.heap.size < w3.heap.size := by omega
  have k4 : w2.heap.size < w3.heap.size := by omega
  obtain ⟨a3, c3, rfl, _⟩ := hrd3
  clear hb3 q1 q2 l3 hp1 hp2 hs2 hs3
  go_wp2_with fail
  refine (S5 _).out.mono ?_
  rintro e w4 ⟨v4, rfl, hrd4, hb4, _⟩
  have B4 := Lib.hid (B3.out.trans (((Below.refl w3.heap.size w3).alloc (Nat.le_refl _) (.cells #[.int .i64 0, .slice a3 _ c3, .bool true, .int .i64 0] 24)).trans (hb4.mono (by simp only [World.size_alloc]; omega)) |>.mono B3.out.size))
  have R4 := Lib.hid hrd4
  clear hrd4 hb4 t1 t2 u1 u2 k1 k2 k3 k4
  go_wp2_with fail
  refine (S4 _ _ R4.out).out.mono ?_
  rintro e w5 ⟨rfl, hb5⟩
  have B5 := Lib.hid (B4.out.trans (hb5.mono B4.out.size))
  clear hb5
  go_wp2_with fail
  go_ret
  exact ⟨rfl, B5.out⟩
end Go.Proofs.Ytaoagaokocnehaa
