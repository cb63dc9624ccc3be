/-
  FilesSwap.
-/
import Derived.Test.YtpckjinlopmbcaaFsKS
import Derived.Test.YtpckjinlopmbcaaWLast
import Derived.StillTailTactics
import Derived.DataShut
namespace Go.Proofs.Ytpckjinlopmbcaa
set_option linter.unusedVariables false
set_option maxRecDepth 100000
set_option linter.unusedSimpArgs false
open Go.RowKit
open Go.Proofs.YtpckjinlopmbcaaW.PrintLast
set_option maxHeartbeats 6400000 in
theorem f_swap {w : World} {va vb vk : Value} {a b : List Int} {keep : List Int} {names cut : Int} (ha : Rb w va a) (hb : Rb w vb b) (hcut : (Lit.int .i64 cut).wf = true) (hnames : (Lit.int .i64 names).wf = true) (hk : Rd w vk keep) :
    Calls Try.prog 6 #[va, vb, .int .i64 cut, .int .i64 names, vk] w fun e w' => e = .returned (.bool true) ∧ Below w.heap.size w w' := by
  have hab := fun h0 => rb_block ha h0
  have hbb := fun h0 => rb_block hb h0
  have hkb := fun h0 => rd_block hk h0
  obtain ⟨aa, ca, rfl, hca1, hca2, -⟩ := id ha
  obtain ⟨ab, cb, rfl, hcb1, hcb2, -⟩ := id hb
  obtain ⟨ak, ck, rfl, -⟩ := id hk
  have HA := Lib.hid ha
  have HB := Lib.hid hb
  have HK := Lib.hid hk
  have HAB := Lib.hid hab
  have HBB := Lib.hid hbb
  have HKB := Lib.hid hkb
  clear ha hb hk hab hbb hkb
  go_enter Try.func6, Try.ntmps6
  go_wp2_with fail
  refine (f_awake w).mono ?_
  rintro e w1 ⟨rfl, hB1⟩
  go_wp2_with fail
  refine (d_new w1 10000 (by decide)).mono ?_
  rintro e w3 ⟨bd, rfl, hD3, hB3⟩
  have hL3 : LoopF w w3 w1.heap.size bd 0 (zeroF 10000) := ⟨hD3, hB1.trans (hB3.mono hB1.size), hB1.size⟩
  clear hB3 hB1 hD3
  generalize w1.heap.size = B at *
  clear w1
  by_cases h1 : 300 < a.length
  · have d1 : decide (300 < a.length) = true := decide_eq_true h1
    have d1' : decide ((300 : Int) < (a.length : Int)) = true := decide_eq_true (by omega)
    go_wp2_with fail
    go_ret
    exact ⟨rfl, hL3.bel⟩
  by_cases h2 : 300 < b.length
  · have d1 : decide (300 < a.length) = false := decide_eq_false h1
    have d1' : decide ((300 : Int) < (a.length : Int)) = false := decide_eq_false (by omega)
    have d2 : decide (300 < b.length) = true := decide_eq_true h2
    have d2' : decide ((300 : Int) < (b.length : Int)) = true := decide_eq_true (by omega)
    go_wp2_with fail
    go_ret
    exact ⟨rfl, hL3.bel⟩
  by_cases h3 : 300 < keep.length
  · have d1 : decide (300 < a.length) = false := decide_eq_false h1
    have d1' : decide ((300 : Int) < (a.length : Int)) = false := decide_eq_false (by omega)
    have d2 : decide (300 < b.length) = false := decide_eq_false h2
    have d2' : decide ((300 : Int) < (b.length : Int)) = false := decide_eq_false (by omega)
    have d3 : decide (300 < keep.length) = true := decide_eq_true h3
    have d3' : decide ((300 : Int) < (keep.length : Int)) = true := decide_eq_true (by omega)
    go_wp2_with fail
    go_ret
    exact ⟨rfl, hL3.bel⟩
  have d1 : decide (300 < a.length) = false := decide_eq_false h1
  have d1' : decide ((300 : Int) < (a.length : Int)) = false := decide_eq_false (by omega)
  have d2 : decide (300 < b.length) = false := decide_eq_false h2
  have d2' : decide ((300 : Int) < (b.length : Int)) = false := decide_eq_false (by omega)
  have d3 : decide (300 < keep.length) = false := decide_eq_false h3
  have d3' : decide ((300 : Int) < (keep.length : Int)) = false := decide_eq_false (by omega)
  by_cases h4 : 1000 < cut
  · have d4 : decide (1000 < cut) = true := decide_eq_true h4
    go_wp2_with fail
    go_ret
    exact ⟨rfl, hL3.bel⟩
  have d4 : decide (1000 < cut) = false := decide_eq_false h4
  obtain ⟨r1, r2, r3⟩ := ks5_1 (a := a) (by omega)
  obtain ⟨x, hx1, hx2⟩ := swap_plain (old := a) (new := b) (by omega) (by omega) cut names keep
  have hle := hL3.le
  go_wp2_with fail
  refine (d_append hL3.d (Below.refl _ _) (by omega) (n := 5) (bs := a) (by decide) (HA.out.below hL3.bel (Nat.le_refl _)) (by omega) (fun h0 k hk => .inl (Nat.lt_of_lt_of_le (HAB.out h0 k hk) hle))).mono ?_
  rintro e w4 ⟨rfl, hD4, hB4⟩
  rw [r1]
  have hL4 := hL3.post (Below.refl _ _) hD4 hB4
  clear hL3 hD4 hB4 r1
  go_wp2_with fail
  refine (d_sync hL4.d (by omega) (n := 5) (by decide)).mono ?_
  rintro e w5 ⟨rfl, hD5, hB5⟩
  rw [r2]
  have hL5 := hL4.post (Below.refl _ _) hD5 hB5
  clear hL4 hD5 hB5 r2
  go_wp2_with fail
  refine (d_syncDir hL5.d (by omega)).mono ?_
  rintro e w6 ⟨rfl, hD6, hB6⟩
  rw [r3] at hD6 ⊢
  have hL6 := hL5.post (Below.refl _ _) hD6 hB6
  clear hL5 hD6 hB6 r3
  go_wp2_with fail
  refine (d_cut hL6.d (by omega) (n := cut) ((Lit.wf_int_iff .i64 cut).1 hcut)).mono ?_
  rintro e w7 ⟨rfl, hD7, hB7⟩
  have hL7 := hL6.post (Below.refl _ _) hD7 hB7
  clear hL6 hD7 hB7
  generalize (KS 5 a).cut cut = T1 at *
  go_wp2_with fail
  refine (d_append hL7.d (Below.refl _ _) (by omega) (n := 1) (bs := b) (by decide) (HB.out.below hL7.bel (Nat.le_refl _)) (by omega) (fun h0 k hk => .inl (Nat.lt_of_lt_of_le (HBB.out h0 k hk) hle))).mono ?_
  rintro e w8 ⟨rfl, hD8, hB8⟩
  have hL8 := hL7.post (Below.refl _ _) hD8 hB8
  clear hL7 hD8 hB8
  generalize (T1.append 1 b).1 = T2 at *
  generalize (T1.append 1 b).2 = ea at *
  go_wp2_with fail
  refine (d_sync hL8.d (by omega) (n := 1) (by decide)).mono ?_
  rintro e w9 ⟨rfl, hD9, hB9⟩
  have hL9 := hL8.post (Below.refl _ _) hD9 hB9
  clear hL8 hD9 hB9
  generalize (T2.sync 1).1 = T3 at *
  generalize (T2.sync 1).2 = eb at *
  go_wp2_with fail
  refine (d_rename hL9.d (by omega) (n := 1) (to := 5) (by decide) (by decide)).mono ?_
  rintro e w10 ⟨rfl, hD10, hB10⟩
  have hL10 := hL9.post (Below.refl _ _) hD10 hB10
  clear hL9 hD10 hB10
  generalize (T3.rename 1 5).1 = T4 at *
  generalize (T3.rename 1 5).2 = ec at *
  go_wp2_with fail
  refine (d_syncDir hL10.d (by omega)).mono ?_
  rintro e w11 ⟨rfl, hD11, hB11⟩
  have hL11 := hL10.post (Below.refl _ _) hD11 hB11
  clear hL10 hD11 hB11
  generalize T4.syncDir.1 = T5 at *
  generalize T4.syncDir.2 = es at *
  go_wp2_with fail
  refine (d_crash hL11.d (Below.refl _ _) (by omega) (names := names) (keep := keep) (HK.out.below hL11.bel (Nat.le_refl _)) (by omega) (fun h0 k hk => .inl (Nat.lt_of_lt_of_le (HKB.out h0 k hk) hle))).mono ?_
  rintro e w12 ⟨rfl, hD12, hB12⟩
  have hL12 := hL11.post (Below.refl _ _) hD12 hB12
  clear hL11 hD12 hB12
  go_wp2_with fail
  refine (d_read hL12.d (n := 5) (by decide)).mono ?_
  rintro e w13 ⟨vx, rfl, ho, hf, hB⟩
  rw [hx1] at ho ⊢
  have hL := hL12.below hB
  clear hL12 hB hf hx1
  obtain ⟨ax, cx, rfl⟩ := own_shape ho
  have s1 := rb_str (own_rb ho)
  have s2 := rb_str (HB.out.below hL.bel (Nat.le_refl _))
  have s3 := rb_str (HA.out.below hL.bel (Nat.le_refl _))
  have HL := Lib.hid hL
  clear hL ho d1 d1' d2 d2' d3 d3' d4
  rcases hx2 with hx | ⟨hx, hno⟩
  · subst hx
    have done : ∀ z : Bool, True := fun _ => trivial
    cases ha0 : (ea == 0) <;> cases hb0 : (eb == 0) <;> cases hc0 : (ec == 0) <;> cases hs0 : (es == 0)
    all_goals (go_wp2_with fail; go_ret; exact ⟨rfl, HL.out.bel⟩)
  · subst hx
    by_cases hss : (strOfNums x).toList = (strOfNums b).toList
    · cases ha0 : (ea == 0) <;> cases hb0 : (eb == 0) <;> cases hc0 : (ec == 0) <;> cases hs0 : (es == 0)
      all_goals first
        | (exfalso; simp at ha0 hb0 hc0 hs0; exact hno ⟨ha0, hb0, hc0, hs0⟩)
        | (clear hno; go_wp2_with fail; go_ret; exact ⟨rfl, HL.out.bel⟩)
    · cases ha0 : (ea == 0) <;> cases hb0 : (eb == 0) <;> cases hc0 : (ec == 0) <;> cases hs0 : (es == 0)
      all_goals first
        | (exfalso; simp at ha0 hb0 hc0 hs0; exact hno ⟨ha0, hb0, hc0, hs0⟩)
        | (clear hno; go_wp2_with fail; go_ret; exact ⟨rfl, HL.out.bel⟩)
end Go.Proofs.Ytpckjinlopmbcaa
