/-
  FilesKeep.
-/
import Derived.Test.YtpckjinlopmbcaaFsKS
import Derived.Test.YtpckjinlopmbcaaWLast
import Derived.StillTailTactics
import Derived.DataShut
namespace Go.Proofs.Ytpckjinlopmbcaa
set_option linter.unusedVariables false
set_option maxRecDepth 100000
set_option linter.unusedSimpArgs false
open Go.RowKit
open Go.Proofs.YtpckjinlopmbcaaW.PrintLast
set_option maxHeartbeats 6400000 in
theorem f_keep {w : World} {va vb vk : Value} {a b : List Int} {keep : List Int} {names cut : Int} (ha : Rb w va a) (hb : Rb w vb b) (hnames : (Lit.int .i64 names).wf = true) (hk : Rd w vk keep) (hcut : (Lit.int .i64 cut).wf = true) :
    Calls Try.prog 3 #[va, vb, .int .i64 names, vk, .int .i64 cut] w fun e w' => e = .returned (.bool true) ∧ Below w.heap.size w w' := by
  have hab := fun h0 => rb_block ha h0
  have hbb := fun h0 => rb_block hb h0
  have hkb := fun h0 => rd_block hk h0
  obtain ⟨aa, ca, rfl, hca1, hca2, -⟩ := id ha
  obtain ⟨ab, cb, rfl, hcb1, hcb2, -⟩ := id hb
  obtain ⟨ak, ck, rfl, -⟩ := id hk
  have HA := Lib.hid ha
  have HB := Lib.hid hb
  have HK := Lib.hid hk
  have HAB := Lib.hid hab
  have HBB := Lib.hid hbb
  have HKB := Lib.hid hkb
  clear ha hb hk hab hbb hkb
  go_enter Try.func3, Try.ntmps3
  go_wp2_with fail
  refine (f_awake w).mono ?_
  rintro e w1 ⟨rfl, hB1⟩
  go_wp2_with fail
  refine (d_new w1 10000 (by decide)).mono ?_
  rintro e w3 ⟨bd, rfl, hD3, hB3⟩
  have hL3 : LoopF w w3 w1.heap.size bd 0 (zeroF 10000) := ⟨hD3, hB1.trans (hB3.mono hB1.size), hB1.size⟩
  clear hB3 hB1 hD3
  generalize w1.heap.size = B at *
  clear w1
  by_cases h1 : 300 < a.length
  · have d1 : decide (300 < a.length) = true := decide_eq_true h1
    have d1' : decide ((300 : Int) < (a.length : Int)) = true := decide_eq_true (by omega)
    go_wp2_with fail
    go_ret
    exact ⟨rfl, hL3.bel⟩
  by_cases h2 : 300 < b.length
  · have d1 : decide (300 < a.length) = false := decide_eq_false h1
    have d1' : decide ((300 : Int) < (a.length : Int)) = false := decide_eq_false (by omega)
    have d2 : decide (300 < b.length) = true := decide_eq_true h2
    have d2' : decide ((300 : Int) < (b.length : Int)) = true := decide_eq_true (by omega)
    go_wp2_with fail
    go_ret
    exact ⟨rfl, hL3.bel⟩
  by_cases h3 : 300 < keep.length
  · have d1 : decide (300 < a.length) = false := decide_eq_false h1
    have d1' : decide ((300 : Int) < (a.length : Int)) = false := decide_eq_false (by omega)
    have d2 : decide (300 < b.length) = false := decide_eq_false h2
    have d2' : decide ((300 : Int) < (b.length : Int)) = false := decide_eq_false (by omega)
    have d3 : decide (300 < keep.length) = true := decide_eq_true h3
    have d3' : decide ((300 : Int) < (keep.length : Int)) = true := decide_eq_true (by omega)
    go_wp2_with fail
    go_ret
    exact ⟨rfl, hL3.bel⟩
  have d1 : decide (300 < a.length) = false := decide_eq_false h1
  have d1' : decide ((300 : Int) < (a.length : Int)) = false := decide_eq_false (by omega)
  have d2 : decide (300 < b.length) = false := decide_eq_false h2
  have d2' : decide ((300 : Int) < (b.length : Int)) = false := decide_eq_false (by omega)
  have d3 : decide (300 < keep.length) = false := decide_eq_false h3
  have d3' : decide ((300 : Int) < (keep.length : Int)) = false := decide_eq_false (by omega)
  obtain ⟨r1, r2, r3⟩ := ks3_1 (a := a) (by omega)
  obtain ⟨x, hx1, hx2, hx3, hx4⟩ := keep_plain (a := a) (b := b) (by omega) (by omega) cut names keep
  have hle := hL3.le
  go_wp2_with fail
  refine (d_append hL3.d (Below.refl _ _) (by omega) (n := 3) (bs := a) (by decide) (HA.out.below hL3.bel (Nat.le_refl _)) (by omega) (fun h0 k hk => .inl (Nat.lt_of_lt_of_le (HAB.out h0 k hk) hle))).mono ?_
  rintro e w4 ⟨rfl, hD4, hB4⟩
  rw [r1]
  have hL4 := hL3.post (Below.refl _ _) hD4 hB4
  clear hL3 hD4 hB4 r1
  go_wp2_with fail
  refine (d_sync hL4.d (by omega) (n := 3) (by decide)).mono ?_
  rintro e w5 ⟨rfl, hD5, hB5⟩
  rw [r2]
  have hL5 := hL4.post (Below.refl _ _) hD5 hB5
  clear hL4 hD5 hB5 r2
  go_wp2_with fail
  refine (d_syncDir hL5.d (by omega)).mono ?_
  rintro e w6 ⟨rfl, hD6, hB6⟩
  rw [r3] at hD6 ⊢
  have hL6 := hL5.post (Below.refl _ _) hD6 hB6
  clear hL5 hD6 hB6 r3
  go_wp2_with fail
  refine (d_cut hL6.d (by omega) (n := cut) ((Lit.wf_int_iff .i64 cut).1 hcut)).mono ?_
  rintro e w7 ⟨rfl, hD7, hB7⟩
  have hL7 := hL6.post (Below.refl _ _) hD7 hB7
  clear hL6 hD7 hB7
  go_wp2_with fail
  refine (d_append hL7.d (Below.refl _ _) (by omega) (n := 3) (bs := b) (by decide) (HB.out.below hL7.bel (Nat.le_refl _)) (by omega) (fun h0 k hk => .inl (Nat.lt_of_lt_of_le (HBB.out h0 k hk) hle))).mono ?_
  rintro e w8 ⟨rfl, hD8, hB8⟩
  have hL8 := hL7.post (Below.refl _ _) hD8 hB8
  clear hL7 hD8 hB8
  generalize (((KS 3 a).cut cut).append 3 b).2 = eb at *
  go_wp2_with fail
  refine (d_crash hL8.d (Below.refl _ _) (by omega) (names := names) (keep := keep) (HK.out.below hL8.bel (Nat.le_refl _)) (by omega) (fun h0 k hk => .inl (Nat.lt_of_lt_of_le (HKB.out h0 k hk) hle))).mono ?_
  rintro e w9 ⟨rfl, hD9, hB9⟩
  have hL9 := hL8.post (Below.refl _ _) hD9 hB9
  clear hL8 hD9 hB9
  go_wp2_with fail
  refine (d_read hL9.d (n := 3) (by decide)).mono ?_
  rintro e w10 ⟨vx, rfl, ho, hf, hB⟩
  rw [hx1] at ho ⊢
  have hL := hL9.below hB
  clear hL9 hB hf hx1
  obtain ⟨ax, cx, rfl⟩ := own_shape ho
  have e1 : ¬ x.length < a.length := by omega
  have e1' : decide ((x.length : Int) < (a.length : Int)) = false := decide_eq_false (by omega)
  have e2 : ¬ a.length + b.length < x.length := by omega
  have e2' : decide (((a.length : Int) + (b.length : Int)) < (x.length : Int)) = false := decide_eq_false (by omega)
  have HL := Lib.hid hL
  have HX := Lib.hid hx4
  have HO := Lib.hid ho
  have HA5 : Hid (Rb w10 (.slice aa a.length ca) a) := Lib.hid (HA.out.below hL.bel (Nat.le_refl _))
  clear hL hx4 ho
  go_wp2_with (first
    | (at_builtin; refine wpList_bcopy_nil rfl _ _ rfl rfl (.slice aa a.length ca) a rfl HA5.out (by omega) ?_; intro v5 w11 hown5 hg5 hat5; have k5 := keeps_grown (Keeps.refl (fun _ => False) w10) hg5; have hb5 : Below w10.heap.size w10 w11 := k5.below (fun _ h => h.elim) (Nat.le_refl _); have HB5 : Hid (Rb w11 (.slice ab b.length cb) b) := Lib.hid (HB.out.below (HL.out.below hb5).bel (Nat.le_refl _)); have HO11 := Lib.hid (own_keeps HO.out k5 (fun _ _ h => h)); have HL11 := Lib.hid (HL.out.below hb5); have HAT5 := Lib.hid hat5; have HO5 := Lib.hid hown5; have hs5 := hb5.size; obtain ⟨a5, c5, e5⟩ := own_shape hown5; subst e5; clear hown5 hg5 hat5 k5 hb5)
    | (at_builtin; refine wpList_bapp rfl _ _ rfl (.slice a5 a.length c5) a rfl HO5.out (.slice ab b.length cb) b rfl HB5.out (by omega) ?_; intro v6 w12 hown6 hg6 hat6; obtain ⟨a6, c6, e6⟩ := own_shape hown6; rw [List.length_append] at e6; subst e6)
    | go_in)
  have hk6 : Keeps (fun q => (Value.slice a5 a.length c5).ownBlock = some q) w11 w12 := (Keeps.refl _ _).grown hg6 (fun k e => .inl e)
  have hx12 := own_keeps HO11.out hk6 (fun q hq e => by
    have h1 := HAT5.out q e
    have h2 := own_lt HO.out hq
    omega)
  have hown6' := hown6
  rw [List.length_append] at hown6'
  have ht := own_take hown6' (n := x.length) hx3
  rw [byt_take] at ht
  have hlt : ((a ++ b).take x.length).length = x.length := by rw [List.length_take, List.length_append]; omega
  have hxs := own_rb hx12
  have hys := own_rb (n := x.length) ht
  rw [← HX.out] at hys
  have s1 : ∀ k, (convert 22 9 (.slice ax x.length cx)).run Try.prog (w12.drewN k) = .ok (.string (strOfNums x)) (w12.drewN k) := fun k => rb_str (hxs.drewN k)
  have s2 : ∀ k, (convert 22 9 (.slice a6 x.length c6)).run Try.prog (w12.drewN k) = .ok (.string (strOfNums x)) (w12.drewN k) := fun k => rb_str (hys.drewN k)
  have l0 : (0 : Int) ≤ (x.length : Int) := by omega
  have hc6 : (a ++ b).length ≤ c6 := by
    rcases hown6.2 with ⟨e, _⟩ | ⟨g, cap, cur, e, _, _, h1, _⟩
    · injection e with _ e _; rw [List.length_append]; omega
    · injection e with _ _ e; omega
  have l1 : (x.length : Int) ≤ (c6 : Int) := by rw [List.length_append] at hc6; omega
  have l2 : x.length ≤ c6 := by omega
  have hbF : Below w.heap.size w w12 := HL11.out.bel.trans (hk6.below (fun q e => by
    have h1 := HAT5.out q e
    have h2 := HL.out.bel.size
    omega) HL11.out.bel.size)
  have HBF := Lib.hid hbF
  clear hk6 hx12 ht hlt hxs hys hbF hg6 hat6 hown6 hown6'
  go_quiet (fail)
  go_wp2_with fail
  go_ret
  exact ⟨rfl, below_drewN HBF.out nq⟩
end Go.Proofs.Ytpckjinlopmbcaa
